/- The law SystemCut, walked. -/
import Derived.Test.YtgpohndnkecbeaaDoorTj
namespace Go.Proofs.YtgpohndnkecbeaaDoor
open Go Go.RowKit Go.Proofs.Sc
set_option maxRecDepth 100000 in
set_option maxHeartbeats 2000000 in
theorem syscut_any (A : Option Addr) (n c : Nat) (l : List ByteArray) (cut : Int) (w : World) (hT : Turns w) (_hnc : n ≤ c) (_hA : A = none → c = 0) (hn : n ≤ 8796093022208) (hr : Rs w A n 1 (vs l)) (_hs : ∀ s ∈ l, s.size ≤ 140737488355328) (h0 : 0 ≤ cut) (h1 : cut < 65536) :
    Calls Tryd.prog 8 #[.slice A n c, .int .u16 cut] w fun e w' => e = .returned (.bool true) ∧ Below w.heap.size w w' := by
  have hl := hr.slen
  clear _hnc _hA _hs
  go_enter Tryd.func8, Tryd.ntmps8
  go_wp2_with fail
  refine (texts_any A n c l w hr (by omega)).mono ?_
  rintro e w0 ⟨rfl, rfl⟩
  by_cases hf : fewP l 12 300
  case neg =>
    rw [decide_eq_false hf]
    clear hf
    go_wp2_with fail
    go_ret
    exact ⟨rfl, Below.refl _ _⟩
  rw [decide_eq_true hf]
  have hn12 : n ≤ 12 := by have := hf.1; omega
  have hsz := hf.2
  clear hf
  go_wp2_with fail
  refine (filled_any A n c l w hT hr hn12 hsz).mono ?_
  rintro e w1 ⟨xs, b, A1, n1, c1, rfl, hnc1, hA1, hr1, hxl, hxm, hxr, hB1⟩
  cases b with
  | false =>
    have hB1' := hB1.alloc hB1.size (.cells #[.slice A1 n1 c1] 34)
    clear hr1
    go_wp2_with fail
    go_ret
    exact ⟨rfl, hB1'⟩
  | true =>
    have hx1 := hr1.slen
    have hn1 : n1 ≤ 12 := by omega
    have hxs300 : ∀ s ∈ xs, s.size ≤ 300 := fun s h => hsz s (hxm s h)
    have hxsz : ∀ s ∈ xs, s.size ≤ 1000000 := fun s h => by have := hxs300 s h; omega
    have htot : total (lsts xs) ≤ 4000 := by
      have h1 := few_total hxs300
      change total (lsts xs) ≤ _ at h1
      have h2 : xs.length * (20 + 300) ≤ 12 * 320 := Nat.mul_le_mul (by omega) (by omega)
      omega
    have hsml := few_small (l := xs) (m := 300) (by omega) hxs300
    have hs2 : Bx (w1.alloc (.cells #[.slice A1 n1 c1] 34)) w1.heap.size 34 #[.slice A1 n1 c1] := Bx.new _ _ _
    have hB2 := hB1.alloc hB1.size (.cells #[.slice A1 n1 c1] 34)
    have hr2 := hr1.alloc (.cells #[.slice A1 n1 c1] 34)
    clear hxm hsz hxl hxs300
    go_wp2_with fail
    generalize (w1.alloc (.cells #[.slice A1 n1 c1] 34)) = w2 at hs2 hB2 hr2 ⊢
    obtain ⟨sb, hsb⟩ : ∃ sb, sb = w1.heap.size := ⟨_, rfl⟩
    rw [← hsb] at hs2 ⊢
    clear hsb hr1 hB1
    have hT2 := hT.belowS hB2
    refine (save_any A1 n1 c1 xs w2 hT2 (by omega) hr2 (by show total (lsts xs) ≤ _; omega)).mono ?_
    obtain ⟨p, hp⟩ : ∃ p : ByteArray, p = ⟨(putB (xs.map fun r => r.data.toList)).toArray⟩ := ⟨_, rfl⟩
    have hpl : p.data.toList = putB (lsts xs) := by rw [hp]; simp [lsts]
    have hps : p.size = total (lsts xs) := by
      have := putB_len (lsts xs)
      rw [← hpl, size_list] at this
      exact this
    have hp16 : p.size ≤ 4000 := by rw [hps]; exact htot
    rw [← hp]
    rintro e w3 ⟨rfl, hb3⟩
    have hB3 := hB2.trans (hb3.mono hB2.size)
    have hs3 := hs2.belowS hb3
    have hr3 := hr2.below hb3
    have hT3 := hT.belowS hB3
    have HPL := Lib.hid hpl
    have HPS := Lib.hid hps
    have HSM := Lib.hid hsml
    clear hp hpl hps hb3 htot hs2 hB2 hr2 hT2 hsml
    obtain ⟨k, hk⟩ : ∃ k : Nat, cut % ((p.size : Int) + 1) = (k : Int) := ⟨(cut % ((p.size : Int) + 1)).toNat, by have := Int.emod_nonneg cut (show ((p.size : Int) + 1) ≠ 0 by omega); omega⟩
    have hkp : (k : Int) ≤ (p.size : Int) := by have := Int.emod_lt_of_pos cut (show 0 < (p.size : Int) + 1 by omega); omega
    go_wp2_with fail
    rw [hk]
    clear hk
    have hks : (p.extract 0 k).size = k := by rw [ByteArray.size_extract]; omega
    refine (open_any (p.extract 0 k) w3 hT3 (by omega)).mono ?_
    rintro e w4 ⟨rs5, A5, n5, c5, hrs5, rfl, hnc5, hA5, hy5, hb4⟩
    have hex : (p.extract 0 k).data.toList = (putB (lsts xs)).take k := by rw [extract_list, List.drop_zero, HPL.out]
    rw [hex] at hrs5
    obtain ⟨many, hm, hrr, hop5, htot5, hless, hall⟩ := open_cut (by omega) HSM.out hxr hrs5 (by rw [← HPS.out]; omega)
    rw [hop5] at hy5
    obtain rfl : many = n5 := by
      have := hy5.slen
      rw [List.length_take] at this
      omega
    rw [← HPS.out, hx1] at hless hall
    obtain ⟨T, hT5⟩ : ∃ T, T = total (lsts rs5) := ⟨_, rfl⟩
    rw [← hT5] at htot5 ⊢
    have hTT : T = total (lsts (xs.take many)) := by rw [hT5, hrr]
    obtain ⟨t, ht⟩ : ∃ t, t = (p.extract 0 k).size - T := ⟨_, rfl⟩
    have htk : (t : Int) ≤ (k : Int) := by omega
    have htT : (k : Int) - (t : Int) = (T : Int) := by omega
    rw [← ht]
    have hTp : T ≤ 4000 := by omega
    have hmn : (many : Int) ≤ (n1 : Int) := by omega
    have htsz : ∀ s ∈ xs.take many, s.size ≤ 1000000 := fun s h => hxsz s (List.mem_of_mem_take h)
    have hL2 : lostP xs many (root (dgs (xs.take many))) = 0 := by rw [lostP, if_neg (by omega), if_pos rfl]
    have HL2 := Lib.hid hL2
    have HTT := Lib.hid hTT
    have hsl := sl22_h A1 n1 c1 many (by omega)
    have hB4 := hB3.trans (hb4.mono hB3.size)
    have hs4 := hs3.belowS hb4
    have hr4 := hr3.below hb4
    have z4 := hs4.lt
    have s4 : w4.cell? ⟨sb, 0, none⟩ = some (.slice A1 n1 c1) := hs4.cell 0
    have ht5 : Bx (w4.alloc (.cells #[.slice A5 many c5] 34)) w4.heap.size 34 #[.slice A5 many c5] := Bx.new _ _ _
    have hB5 := hB4.alloc hB4.size (.cells #[.slice A5 many c5] 34)
    have hs5 := hs4.alloc (.cells #[.slice A5 many c5] 34)
    have hr5 := hr4.alloc (.cells #[.slice A5 many c5] 34)
    have hq5 := hy5.alloc (.cells #[.slice A5 many c5] 34)
    have hwk : IntKind.i64.wrap (T : Int) = (T : Int) := IntWalk.i64_in _ (by omega)
    clear ht hex hrs5 hop5 hrr hb4 hs3 hT3 hB3 hr3 hks hL2 hTT hT5
    go_wp2_with fail
    generalize (w4.alloc (.cells #[.slice A5 many c5] 34)) = w5 at ht5 hB5 hs5 hr5 hq5 ⊢
    obtain ⟨tb, htb⟩ : ∃ tb, tb = w4.heap.size := ⟨_, rfl⟩
    rw [← htb] at ht5 ⊢
    clear htb z4 s4 hs4 hB4 hr4 hy5
    have s5 : w5.cell? ⟨sb, 0, none⟩ = some (.slice A1 n1 c1) := hs5.cell 0
    have t5 : w5.cell? ⟨tb, 0, none⟩ = some (.slice A5 many c5) := ht5.cell 0
    have hrt : Rs w5 A1 many 1 (vs (xs.take many)) := Rs.strTake hr5 (by omega)
    have hd1 : decide ((n1 : Int) < (many : Int)) = false := by simp; omega
    have hd2 : decide (n1 < many) = false := by simp; omega
    have hd3 : decide ((t : Int) < 0) = false := by simp
    have hd4 : decide ((k : Int) < (t : Int)) = false := by simp; omega
    have hd5 : decide (k < t) = false := by simp; omega
    go_region_held3 (fun X : World => X.cell? ⟨sb, 0, none⟩ = some (.slice A1 n1 c1) ∧ X.cell? ⟨tb, 0, none⟩ = some (.slice A5 many c5)) (go_keep) (first
      | (go_at_call 37; refine (same_any A5 A1 many c5 many c1 (xs.take many) (xs.take many) _ ?_ ?_ (by omega)).mono ?_; exact hq5; exact hrt; rintro e w6 ⟨rfl, hb6⟩; rw [decide_eq_true rfl]; have hB6 := hB5.drew.trans (hb6.mono hB5.size); have hs6 := hs5.drew.belowS hb6; have ht6 := ht5.drew.belowS hb6; have s6 : w6.cell? ⟨sb, 0, none⟩ = some (.slice A1 n1 c1) := hs6.cell 0; have t6 : w6.cell? ⟨tb, 0, none⟩ = some (.slice A5 many c5) := ht6.cell 0; have hr6 := hr5.drew.below hb6; have hq6 := hq5.drew.below hb6; have hT6 := hT.belowS hB6))
    clear hrt hs5 ht5 hB5 hr5 hq5 s5 t5 hb6 hd1 hd2 hd3 hd4 hd5
    go_wp2_with fail
    refine (put_any A5 many c5 (xs.take many) w6 hT6 (by omega) hq6 (by show total (lsts (xs.take many)) ≤ _; rw [← HTT.out]; omega)).mono ?_
    obtain ⟨q, hq⟩ : ∃ q : ByteArray, q = ⟨(putB ((xs.take many).map fun r => r.data.toList)).toArray⟩ := ⟨_, rfl⟩
    have hqs : q.size = T := by
      have := putB_len (lsts (xs.take many))
      rw [← HTT.out] at this
      rw [hq, mk_size]
      exact this
    rw [← hq]
    rintro e w8 ⟨rfl, hb8⟩
    have hB8 := hB6.trans (hb8.mono hB6.size)
    have hs8 := hs6.belowS hb8
    have ht8 := ht6.belowS hb8
    have s8 : w8.cell? ⟨sb, 0, none⟩ = some (.slice A1 n1 c1) := hs8.cell 0
    have t8 : w8.cell? ⟨tb, 0, none⟩ = some (.slice A5 many c5) := ht8.cell 0
    have hr8 := hr6.below hb8
    have hq8 := hq6.below hb8
    have hT8 := hT.belowS hB8
    clear hq hb8 hs6 ht6 hB6 hr6 hq6 s6 t6 hT6
    have heqT : ((q.size : Int) == (T : Int)) = true := by simp; omega
    have hL1 : lostP (xs.take many) n1 (root (dgs xs)) = if many < n1 then 6 else 0 := by
      rw [lostP, List.length_take, hx1, Nat.min_eq_left (show many ≤ n1 by omega)]
      by_cases h : many < n1
      · rw [if_pos h, if_pos h]
      · have e1 : xs.take many = xs := List.take_of_length_le (by omega)
        rw [if_neg h, if_neg h, e1, List.take_of_length_le (by omega), if_pos rfl]
    by_cases hmm : many < n1
    · have hkl := hless hmm
      rw [if_pos hmm] at hL1
      have HL1 := Lib.hid hL1
      have hd1 : decide ((many : Int) < (n1 : Int)) = true := by simp; omega
      have hd2 : decide (many < n1) = true := by simp; omega
      have hd3 : decide ((k : Int) < (p.size : Int)) = true := by simp; omega
      have hd4 : decide (k < p.size) = true := by simp; omega
      clear hL1 hless hall
      go_wp2_with fail
      refine wp_region_held_drew (S := (fun X : World => X.cell? ⟨sb, 0, none⟩ = some (.slice A1 n1 c1) ∧ X.cell? ⟨tb, 0, none⟩ = some (.slice A5 many c5))) (by kernel_rfl) ?_ (fun hH => ?_)
      · ((try dsimp only); go_keep)
      refine wpAnyH_take (i := 0) (v := ?v0) rfl (by kernel_rfl) (by kernel_rfl) (by kernel_rfl) (fun _ _ _ h => h) (Or.inl ⟨by rfl, ?hy0⟩) (by assumption) ?r0
      case hy0 => (intro w hSw; (try dsimp only at hSw); go_simp; try with_reducible rfl)
      try simp only [Act.put, List.setIfInBounds_toArray, List.set_cons_zero, List.set_cons_succ, List.getElem_toArray, List.getElem_cons_zero]
      refine wpAnyH_take (i := 1) (v := ?v1) rfl (by kernel_rfl) (by kernel_rfl) (by kernel_rfl) (fun _ _ _ h => h) (Or.inl ⟨by rfl, ?hy1⟩) (by assumption) ?r1
      case hy1 => (intro w hSw; (try dsimp only at hSw); go_simp; try with_reducible rfl)
      try simp only [Act.put, List.setIfInBounds_toArray, List.set_cons_zero, List.set_cons_succ, List.getElem_toArray, List.getElem_cons_zero, List.getElem_cons_succ]
      refine wpAnyH_take (i := 2) (v := ?v2) rfl (by kernel_rfl) (by kernel_rfl) (by kernel_rfl) (fun _ _ _ h => h) (Or.inl ⟨by rfl, ?hy2⟩) (by assumption) ?r2
      case hy2 => (intro w hSw; (try dsimp only at hSw); go_simp; try with_reducible rfl)
      try simp only [Act.put, List.setIfInBounds_toArray, List.set_cons_zero, List.set_cons_succ, List.getElem_toArray, List.getElem_cons_zero, List.getElem_cons_succ]
      refine wpAnyH_take (i := 3) (v := ?v3) rfl (by kernel_rfl) (by kernel_rfl) (by kernel_rfl) (fun _ _ _ h => h) (Or.inl ⟨by rfl, ?hy3⟩) (by assumption) ?r3
      case hy3 => (intro w hSw; (try dsimp only at hSw); go_simp; try with_reducible rfl)
      try simp only [Act.put, List.setIfInBounds_toArray, List.set_cons_zero, List.set_cons_succ, List.getElem_toArray, List.getElem_cons_zero, List.getElem_cons_succ]
      refine wpAnyH_take (i := 4) (v := ?v4) rfl (by kernel_rfl) (by kernel_rfl) (by kernel_rfl) (fun _ _ _ h => h) (Or.inl ⟨by rfl, ?hy4⟩) (by assumption) ?r4
      case hy4 => (intro w hSw; (try dsimp only at hSw); go_simp; try with_reducible rfl)
      try simp only [Act.put, List.setIfInBounds_toArray, List.set_cons_zero, List.set_cons_succ, List.getElem_toArray, List.getElem_cons_zero, List.getElem_cons_succ]
      refine wpAnyH_take (i := 5) (v := ?v5) rfl (by kernel_rfl) (by kernel_rfl) (by kernel_rfl) (fun _ _ _ h => h) (Or.inl ⟨by rfl, ?hy5⟩) (by assumption) ?r5
      case hy5 => (intro w hSw; (try dsimp only at hSw); go_simp; try with_reducible rfl)
      try simp only [Act.put, List.setIfInBounds_toArray, List.set_cons_zero, List.set_cons_succ, List.getElem_toArray, List.getElem_cons_zero, List.getElem_cons_succ]
      refine wpAnyH_take (i := 6) (v := ?v6) rfl (by kernel_rfl) (by kernel_rfl) (by kernel_rfl) (fun _ _ _ h => h) (Or.inl ⟨by rfl, ?hy6⟩) (by assumption) ?r6
      case hy6 => (intro w hSw; (try dsimp only at hSw); go_simp; try with_reducible rfl)
      try simp only [Act.put, List.setIfInBounds_toArray, List.set_cons_zero, List.set_cons_succ, List.getElem_toArray, List.getElem_cons_zero, List.getElem_cons_succ]
      refine wpAnyH_take (i := 7) (v := ?v7) rfl (by kernel_rfl) (by kernel_rfl) (by kernel_rfl) (fun _ _ _ h => h) (Or.inl ⟨by rfl, ?hy7⟩) (by assumption) ?r7
      case hy7 => (intro w hSw; (try dsimp only at hSw); go_simp; try with_reducible rfl)
      try simp only [Act.put, List.setIfInBounds_toArray, List.set_cons_zero, List.set_cons_succ, List.getElem_toArray, List.getElem_cons_zero, List.getElem_cons_succ]
      refine wpAnyH_take (i := 8) (v := ?v8) rfl (by kernel_rfl) (by kernel_rfl) (by kernel_rfl) (fun _ _ _ h => h) (Or.inl ⟨by rfl, ?hy8⟩) (by assumption) ?r8
      case hy8 => (intro w hSw; (try dsimp only at hSw); go_simp; try with_reducible rfl)
      try simp only [Act.put, List.setIfInBounds_toArray, List.set_cons_zero, List.set_cons_succ, List.getElem_toArray, List.getElem_cons_zero, List.getElem_cons_succ]
      refine wpAnyH_take (i := 9) (v := ?v9) rfl (by kernel_rfl) (by kernel_rfl) (by kernel_rfl) (fun _ _ _ h => h) (Or.inl ⟨by rfl, ?hy9⟩) (by assumption) ?r9
      case hy9 => (intro w hSw; (try dsimp only at hSw); go_simp; try with_reducible rfl)
      try simp only [Act.put, List.setIfInBounds_toArray, List.set_cons_zero, List.set_cons_succ, List.getElem_toArray, List.getElem_cons_zero, List.getElem_cons_succ]
      refine wpAnyH_take (i := 10) (v := ?v10) rfl (by kernel_rfl) (by kernel_rfl) (by kernel_rfl) (fun _ _ _ h => h) (Or.inl ⟨by rfl, ?hy10⟩) (by assumption) ?r10
      case hy10 => (intro w hSw; (try dsimp only at hSw); go_simp; try with_reducible rfl)
      try simp only [Act.put, List.setIfInBounds_toArray, List.set_cons_zero, List.set_cons_succ, List.getElem_toArray, List.getElem_cons_zero, List.getElem_cons_succ]
      refine wpAnyH_take (i := 11) (v := ?v11) rfl (by kernel_rfl) (by kernel_rfl) (by kernel_rfl) (fun _ _ _ h => h) (Or.inl ⟨by rfl, ?hy11⟩) (by assumption) ?r11
      case hy11 => (intro w hSw; (try dsimp only at hSw); go_simp; try with_reducible rfl)
      try simp only [Act.put, List.setIfInBounds_toArray, List.set_cons_zero, List.set_cons_succ, List.getElem_toArray, List.getElem_cons_zero, List.getElem_cons_succ]
      refine wpAnyH_take (i := 12) (v := ?v12) rfl (by kernel_rfl) (by kernel_rfl) (by kernel_rfl) (fun _ _ _ h => h) (Or.inl ⟨by rfl, ?hy12⟩) (by assumption) ?r12
      case hy12 => (intro w hSw; (try dsimp only at hSw); go_simp; try with_reducible rfl)
      try simp only [Act.put, List.setIfInBounds_toArray, List.set_cons_zero, List.set_cons_succ, List.getElem_toArray, List.getElem_cons_zero, List.getElem_cons_succ]
      refine wpAnyH_take (i := 15) (v := ?v15) rfl (by kernel_rfl) (by kernel_rfl) (by kernel_rfl) (fun _ _ _ h => h) (Or.inl ⟨by rfl, ?hy15⟩) (by assumption) ?r15
      case hy15 => (intro w hSw; (try dsimp only at hSw); go_simp; try with_reducible rfl)
      try simp only [Act.put, List.setIfInBounds_toArray, List.set_cons_zero, List.set_cons_succ, List.getElem_toArray, List.getElem_cons_zero, List.getElem_cons_succ]
      refine wpAnyH_ready (rs := [13]) (by kernel_rfl) (by simp) ?_
      refine AllReadyH.cons rfl (fun K hK => ?_) AllReadyH.nil
      go_simp
      refine (head_any A1 n1 c1 xs _ ?_ ?_ (by omega) hxsz).mono ?_; exact hT8; exact hr8; rintro e w9 ⟨d0, d1, d2, d3, hd, rfl, hb9⟩; have hB9 := hB8.drew.trans (hb9.mono hB8.size); have hs9 := hs8.drew.belowS hb9; have ht9 := ht8.drew.belowS hb9; have s9 : w9.cell? ⟨sb, 0, none⟩ = some (.slice A1 n1 c1) := hs9.cell 0; have t9 : w9.cell? ⟨tb, 0, none⟩ = some (.slice A5 many c5) := ht9.cell 0; have hr9 := hr8.drew.below hb9; have hq9 := hq8.drew.below hb9; have hT9 := hT.belowS hB9
      (try dsimp only)
      refine hK.out _ _ ?_ (fun hH => ?_)
      · ((try dsimp only); go_keep)
      clear hK K
      try simp only [Act.put, List.setIfInBounds_toArray, List.set_cons_zero, List.set_cons_succ, List.getElem_toArray, List.getElem_cons_zero, List.getElem_cons_succ]
      refine wpAnyH_ready (rs := [14]) (by kernel_rfl) (by simp) ?_
      refine AllReadyH.cons rfl (fun K hK => ?_) AllReadyH.nil
      go_simp
      refine (lost_any A5 many c5 n1 (xs.take many) d0 d1 d2 d3 w9 hT9 hq9 hnc5 (by omega) (by omega) htsz).mono ?_; rintro e w10 ⟨rfl, hb10⟩; rw [← hd.out, HL1.out]; have hB10 := hB9.trans (hb10.mono hB9.size); have hs10 := hs9.belowS hb10; have ht10 := ht9.belowS hb10; have s10 : w10.cell? ⟨sb, 0, none⟩ = some (.slice A1 n1 c1) := hs10.cell 0; have t10 : w10.cell? ⟨tb, 0, none⟩ = some (.slice A5 many c5) := ht10.cell 0; have hr10 := hr9.below hb10; have hq10 := hq9.below hb10; have hT10 := hT.belowS hB10
      (try dsimp only)
      refine hK.out _ _ ?_ (fun hH => ?_)
      · ((try dsimp only); go_keep)
      clear hK K
      try simp only [Act.put, List.setIfInBounds_toArray, List.set_cons_zero, List.set_cons_succ, List.getElem_toArray, List.getElem_cons_zero, List.getElem_cons_succ]
      refine wpAnyH_take (i := 16) (v := ?v16) rfl (by kernel_rfl) (by kernel_rfl) (by kernel_rfl) (fun _ _ _ h => h) (Or.inl ⟨by rfl, ?hy16⟩) (by assumption) ?r16
      case hy16 => (intro w hSw; (try dsimp only at hSw); go_simp; try with_reducible rfl)
      try simp only [Act.put, List.setIfInBounds_toArray, List.set_cons_zero, List.set_cons_succ, List.getElem_toArray, List.getElem_cons_zero, List.getElem_cons_succ]
      refine wpAnyH_take (i := 17) (v := ?v17) rfl (by kernel_rfl) (by kernel_rfl) (by kernel_rfl) (fun _ _ _ h => h) (Or.inl ⟨by rfl, ?hy17⟩) (by assumption) ?r17
      case hy17 => (intro w hSw; (try dsimp only at hSw); go_simp; try with_reducible rfl)
      try simp only [Act.put, List.setIfInBounds_toArray, List.set_cons_zero, List.set_cons_succ, List.getElem_toArray, List.getElem_cons_zero, List.getElem_cons_succ]
      refine wpAnyH_take (i := 18) (v := ?v18) rfl (by kernel_rfl) (by kernel_rfl) (by kernel_rfl) (fun _ _ _ h => h) (Or.inl ⟨by rfl, ?hy18⟩) (by assumption) ?r18
      case hy18 => (intro w hSw; (try dsimp only at hSw); go_simp; try with_reducible rfl)
      try simp only [Act.put, List.setIfInBounds_toArray, List.set_cons_zero, List.set_cons_succ, List.getElem_toArray, List.getElem_cons_zero, List.getElem_cons_succ]
      refine wpAnyH_take (i := 19) (v := ?v19) rfl (by kernel_rfl) (by kernel_rfl) (by kernel_rfl) (fun _ _ _ h => h) (Or.inl ⟨by rfl, ?hy19⟩) (by assumption) ?r19
      case hy19 => (intro w hSw; (try dsimp only at hSw); go_simp; try with_reducible rfl)
      try simp only [Act.put, List.setIfInBounds_toArray, List.set_cons_zero, List.set_cons_succ, List.getElem_toArray, List.getElem_cons_zero, List.getElem_cons_succ]
      refine wpAnyH_take (i := 20) (v := ?v20) rfl (by kernel_rfl) (by kernel_rfl) (by kernel_rfl) (fun _ _ _ h => h) (Or.inl ⟨by rfl, ?hy20⟩) (by assumption) ?r20
      case hy20 => (intro w hSw; (try dsimp only at hSw); go_simp; try with_reducible rfl)
      try simp only [Act.put, List.setIfInBounds_toArray, List.set_cons_zero, List.set_cons_succ, List.getElem_toArray, List.getElem_cons_zero, List.getElem_cons_succ]
      refine wpAnyH_ready (rs := [21]) (by kernel_rfl) (by simp) ?_
      refine AllReadyH.cons rfl (fun K hK => ?_) AllReadyH.nil
      go_simp
      refine (head_any A5 many c5 (xs.take many) w10 hT10 hq10 (by omega) htsz).mono ?_; rintro e w11 ⟨e0, e1, e2, e3, he, rfl, hb11⟩; have hB11 := hB10.trans (hb11.mono hB10.size); have hs11 := hs10.belowS hb11; have ht11 := ht10.belowS hb11; have s11 : w11.cell? ⟨sb, 0, none⟩ = some (.slice A1 n1 c1) := hs11.cell 0; have t11 : w11.cell? ⟨tb, 0, none⟩ = some (.slice A5 many c5) := ht11.cell 0; have hr11 := hr10.below hb11; have hq11 := hq10.below hb11; have hT11 := hT.belowS hB11
      (try dsimp only)
      refine hK.out _ _ ?_ (fun hH => ?_)
      · ((try dsimp only); go_keep)
      clear hK K
      try simp only [Act.put, List.setIfInBounds_toArray, List.set_cons_zero, List.set_cons_succ, List.getElem_toArray, List.getElem_cons_zero, List.getElem_cons_succ]
      refine wpAnyH_ready (rs := [22]) (by kernel_rfl) (by simp) ?_
      refine AllReadyH.cons rfl (fun K hK => ?_) AllReadyH.nil
      go_simp
      refine (lost_any A1 n1 c1 many xs e0 e1 e2 e3 w11 hT11 hr11 hnc1 (by omega) (by omega) hxsz).mono ?_; rintro e w12 ⟨rfl, hb12⟩; rw [← he.out, HL2.out]; have hB12 := hB11.trans (hb12.mono hB11.size); have hs12 := hs11.belowS hb12; have ht12 := ht11.belowS hb12; have s12 : w12.cell? ⟨sb, 0, none⟩ = some (.slice A1 n1 c1) := hs12.cell 0; have t12 : w12.cell? ⟨tb, 0, none⟩ = some (.slice A5 many c5) := ht12.cell 0; have hr12 := hr11.below hb12; have hq12 := hq11.below hb12; have hT12 := hT.belowS hB12
      (try dsimp only)
      refine hK.out _ _ ?_ (fun hH => ?_)
      · ((try dsimp only); go_keep)
      clear hK K
      try simp only [Act.put, List.setIfInBounds_toArray, List.set_cons_zero, List.set_cons_succ, List.getElem_toArray, List.getElem_cons_zero, List.getElem_cons_succ]
      refine wpAnyH_take (i := 23) (v := ?v23) rfl (by kernel_rfl) (by kernel_rfl) (by kernel_rfl) (fun _ _ _ h => h) (Or.inl ⟨by rfl, ?hy23⟩) (by assumption) ?r23
      case hy23 => (intro w hSw; (try dsimp only at hSw); go_simp; try with_reducible rfl)
      try simp only [Act.put, List.setIfInBounds_toArray, List.set_cons_zero, List.set_cons_succ, List.getElem_toArray, List.getElem_cons_zero, List.getElem_cons_succ]
      refine wpAnyH_take (i := 24) (v := ?v24) rfl (by kernel_rfl) (by kernel_rfl) (by kernel_rfl) (fun _ _ _ h => h) (Or.inl ⟨by rfl, ?hy24⟩) (by assumption) ?r24
      case hy24 => (intro w hSw; (try dsimp only at hSw); go_simp; try with_reducible rfl)
      try simp only [Act.put, List.setIfInBounds_toArray, List.set_cons_zero, List.set_cons_succ, List.getElem_toArray, List.getElem_cons_zero, List.getElem_cons_succ]
      refine wpAnyH_take (i := 25) (v := ?v25) rfl (by kernel_rfl) (by kernel_rfl) (by kernel_rfl) (fun _ _ _ h => h) (Or.inl ⟨by rfl, ?hy25⟩) (by assumption) ?r25
      case hy25 => (intro w hSw; (try dsimp only at hSw); go_simp; try with_reducible rfl)
      try simp only [Act.put, List.setIfInBounds_toArray, List.set_cons_zero, List.set_cons_succ, List.getElem_toArray, List.getElem_cons_zero, List.getElem_cons_succ]
      refine wpAnyH_take (i := 26) (v := ?v26) rfl (by kernel_rfl) (by kernel_rfl) (by kernel_rfl) (fun _ _ _ h => h) (Or.inl ⟨by rfl, ?hy26⟩) (by assumption) ?r26
      case hy26 => (intro w hSw; (try dsimp only at hSw); go_simp; try with_reducible rfl)
      try simp only [Act.put, List.setIfInBounds_toArray, List.set_cons_zero, List.set_cons_succ, List.getElem_toArray, List.getElem_cons_zero, List.getElem_cons_succ]
      refine wpAnyH_take (i := 27) (v := ?v27) rfl (by kernel_rfl) (by kernel_rfl) (by kernel_rfl) (fun _ _ _ h => h) (Or.inl ⟨by rfl, ?hy27⟩) (by assumption) ?r27
      case hy27 => (intro w hSw; (try dsimp only at hSw); go_simp; try with_reducible rfl)
      try simp only [Act.put, List.setIfInBounds_toArray, List.set_cons_zero, List.set_cons_succ, List.getElem_toArray, List.getElem_cons_zero, List.getElem_cons_succ]
      refine wpAnyH_take (i := 28) (v := ?v28) rfl (by kernel_rfl) (by kernel_rfl) (by kernel_rfl) (fun _ _ _ h => h) (Or.inl ⟨by rfl, ?hy28⟩) (by assumption) ?r28
      case hy28 => (intro w hSw; (try dsimp only at hSw); go_simp; try with_reducible rfl)
      try simp only [Act.put, List.setIfInBounds_toArray, List.set_cons_zero, List.set_cons_succ, List.getElem_toArray, List.getElem_cons_zero, List.getElem_cons_succ]
      refine wpAnyH_take (i := 29) (v := ?v29) rfl (by kernel_rfl) (by kernel_rfl) (by kernel_rfl) (fun _ _ _ h => h) (Or.inl ⟨by rfl, ?hy29⟩) (by assumption) ?r29
      case hy29 => (intro w hSw; (try dsimp only at hSw); go_simp; try with_reducible rfl)
      try simp only [Act.put, List.setIfInBounds_toArray, List.set_cons_zero, List.set_cons_succ, List.getElem_toArray, List.getElem_cons_zero, List.getElem_cons_succ]
      refine wpAnyH_take (i := 30) (v := ?v30) rfl (by kernel_rfl) (by kernel_rfl) (by kernel_rfl) (fun _ _ _ h => h) (Or.inl ⟨by rfl, ?hy30⟩) (by assumption) ?r30
      case hy30 => (intro w hSw; (try dsimp only at hSw); go_simp; try with_reducible rfl)
      try simp only [Act.put, List.setIfInBounds_toArray, List.set_cons_zero, List.set_cons_succ, List.getElem_toArray, List.getElem_cons_zero, List.getElem_cons_succ]
      refine wpAnyH_take (i := 31) rfl (by kernel_rfl) (by kernel_rfl) (by kernel_rfl) (fun _ _ _ h => h) (Or.inr ⟨by rfl, rfl⟩) (by assumption) ?_
      try simp only [Act.put, List.setIfInBounds_toArray, List.set_cons_zero, List.set_cons_succ, List.getElem_toArray, List.getElem_cons_zero, List.getElem_cons_succ]
      refine wpAnyH_take (i := 32) rfl (by kernel_rfl) (by kernel_rfl) (by kernel_rfl) (fun _ _ _ h => h) (Or.inr ⟨by rfl, rfl⟩) (by assumption) ?_
      try simp only [Act.put, List.setIfInBounds_toArray, List.set_cons_zero, List.set_cons_succ, List.getElem_toArray, List.getElem_cons_zero, List.getElem_cons_succ]
      refine wpAnyH_take (i := 33) rfl (by kernel_rfl) (by kernel_rfl) (by kernel_rfl) (fun _ _ _ h => h) (Or.inr ⟨by rfl, rfl⟩) (by assumption) ?_
      try simp only [Act.put, List.setIfInBounds_toArray, List.set_cons_zero, List.set_cons_succ, List.getElem_toArray, List.getElem_cons_zero, List.getElem_cons_succ]
      refine wpAnyH_take (i := 34) rfl (by kernel_rfl) (by kernel_rfl) (by kernel_rfl) (fun _ _ _ h => h) (Or.inr ⟨by rfl, rfl⟩) (by assumption) ?_
      try simp only [Act.put, List.setIfInBounds_toArray, List.set_cons_zero, List.set_cons_succ, List.getElem_toArray, List.getElem_cons_zero, List.getElem_cons_succ]
      refine wpAnyH_take (i := 35) rfl (by kernel_rfl) (by kernel_rfl) (by kernel_rfl) (fun _ _ _ h => h) (Or.inr ⟨by rfl, rfl⟩) (by assumption) ?_
      try simp only [Act.put, List.setIfInBounds_toArray, List.set_cons_zero, List.set_cons_succ, List.getElem_toArray, List.getElem_cons_zero, List.getElem_cons_succ]
      refine wpAnyH_take (i := 36) rfl (by kernel_rfl) (by kernel_rfl) (by kernel_rfl) (fun _ _ _ h => h) (Or.inr ⟨by rfl, rfl⟩) (by assumption) ?_
      try simp only [Act.put, List.setIfInBounds_toArray, List.set_cons_zero, List.set_cons_succ, List.getElem_toArray, List.getElem_cons_zero, List.getElem_cons_succ]
      refine wpAnyH_take (i := 37) rfl (by kernel_rfl) (by kernel_rfl) (by kernel_rfl) (fun _ _ _ h => h) (Or.inr ⟨by rfl, rfl⟩) (by assumption) ?_
      try simp only [Act.put, List.setIfInBounds_toArray, List.set_cons_zero, List.set_cons_succ, List.getElem_toArray, List.getElem_cons_zero, List.getElem_cons_succ]
      refine wpAnyH_take (i := 38) (v := ?v38) rfl (by kernel_rfl) (by kernel_rfl) (by kernel_rfl) (fun _ _ _ h => h) (Or.inl ⟨by rfl, ?hy38⟩) (by assumption) ?r38
      case hy38 => (intro w hSw; (try dsimp only at hSw); go_simp; try with_reducible rfl)
      try simp only [Act.put, List.setIfInBounds_toArray, List.set_cons_zero, List.set_cons_succ, List.getElem_toArray, List.getElem_cons_zero, List.getElem_cons_succ]
      refine wpAnyH_take (i := 39) (v := ?v39) rfl (by kernel_rfl) (by kernel_rfl) (by kernel_rfl) (fun _ _ _ h => h) (Or.inl ⟨by rfl, ?hy39⟩) (by assumption) ?r39
      case hy39 => (intro w hSw; (try dsimp only at hSw); go_simp; try with_reducible rfl)
      try simp only [Act.put, List.setIfInBounds_toArray, List.set_cons_zero, List.set_cons_succ, List.getElem_toArray, List.getElem_cons_zero, List.getElem_cons_succ]
      refine wpAnyH_take (i := 40) (v := ?v40) rfl (by kernel_rfl) (by kernel_rfl) (by kernel_rfl) (fun _ _ _ h => h) (Or.inl ⟨by rfl, ?hy40⟩) (by assumption) ?r40
      case hy40 => (intro w hSw; (try dsimp only at hSw); go_simp; try with_reducible rfl)
      try simp only [Act.put, List.setIfInBounds_toArray, List.set_cons_zero, List.set_cons_succ, List.getElem_toArray, List.getElem_cons_zero, List.getElem_cons_succ]
      refine wpAnyH_done (by kernel_rfl) ?_ _
      go_wp2_with fail
      go_ret
      refine ⟨?_, hB12⟩
      first | rfl | simp
    · have hkl := hall (by omega)
      rw [if_neg hmm] at hL1
      have HL1 := Lib.hid hL1
      have hmn1 : many = n1 := by omega
      have hd1 : decide ((many : Int) < (n1 : Int)) = false := by simp; omega
      have hd2 : decide (many < n1) = false := by simp; omega
      have hd3 : decide ((k : Int) < (p.size : Int)) = false := by simp; omega
      have hd4 : decide (k < p.size) = false := by simp; omega
      have hd5 : ((many : Int) == (n1 : Int)) = true := by simp; omega
      have HMN := Lib.hid hmn1
      clear hL1 hless hall hmn1 hkl
      go_wp2_with fail
      first
        | (go_region_held3 (fun X : World => X.cell? ⟨sb, 0, none⟩ = some (.slice A1 n1 c1) ∧ X.cell? ⟨tb, 0, none⟩ = some (.slice A5 many c5)) (go_keep) (first
          | (go_at_call 38; have h77 := he; refine (lost_any A1 n1 c1 many xs e0 e1 e2 e3 w11 hT11 hr11 hnc1 (by omega) (by omega) hxsz).mono ?_; rintro e w12 ⟨rfl, hb12⟩; rw [← he.out, HL2.out]; have hB12 := hB11.trans (hb12.mono hB11.size); have hs12 := hs11.belowS hb12; have ht12 := ht11.belowS hb12; have s12 : w12.cell? ⟨sb, 0, none⟩ = some (.slice A1 n1 c1) := hs12.cell 0; have t12 : w12.cell? ⟨tb, 0, none⟩ = some (.slice A5 many c5) := ht12.cell 0; have hr12 := hr11.below hb12; have hq12 := hq11.below hb12; have hT12 := hT.belowS hB12)
          | (go_at_call 38; refine (lost_any A5 many c5 n1 (xs.take many) d0 d1 d2 d3 w9 hT9 hq9 hnc5 (by omega) (by omega) htsz).mono ?_; rintro e w10 ⟨rfl, hb10⟩; rw [← hd.out, HL1.out]; have hB10 := hB9.trans (hb10.mono hB9.size); have hs10 := hs9.belowS hb10; have ht10 := ht9.belowS hb10; have s10 : w10.cell? ⟨sb, 0, none⟩ = some (.slice A1 n1 c1) := hs10.cell 0; have t10 : w10.cell? ⟨tb, 0, none⟩ = some (.slice A5 many c5) := ht10.cell 0; have hr10 := hr9.below hb10; have hq10 := hq9.below hb10; have hT10 := hT.belowS hB10)
          | (go_at_call 32; have h99 := hB10; refine (head_any A5 many c5 (xs.take many) w10 hT10 hq10 (by omega) htsz).mono ?_; rintro e w11 ⟨e0, e1, e2, e3, he, rfl, hb11⟩; have hB11 := hB10.trans (hb11.mono hB10.size); have hs11 := hs10.belowS hb11; have ht11 := ht10.belowS hb11; have s11 : w11.cell? ⟨sb, 0, none⟩ = some (.slice A1 n1 c1) := hs11.cell 0; have t11 : w11.cell? ⟨tb, 0, none⟩ = some (.slice A5 many c5) := ht11.cell 0; have hr11 := hr10.below hb11; have hq11 := hq10.below hb11; have hT11 := hT.belowS hB11)
          | (go_at_call 32; refine (head_any A1 n1 c1 xs _ ?_ ?_ (by omega) hxsz).mono ?_; exact hT8; exact hr8; rintro e w9 ⟨d0, d1, d2, d3, hd, rfl, hb9⟩; have hB9 := hB8.drew.trans (hb9.mono hB8.size); have hs9 := hs8.drew.belowS hb9; have ht9 := ht8.drew.belowS hb9; have s9 : w9.cell? ⟨sb, 0, none⟩ = some (.slice A1 n1 c1) := hs9.cell 0; have t9 : w9.cell? ⟨tb, 0, none⟩ = some (.slice A5 many c5) := ht9.cell 0; have hr9 := hr8.drew.below hb9; have hq9 := hq8.drew.below hb9; have hT9 := hT.belowS hB9)))
        | fail
      all_goals
        go_wp2_with fail
        go_ret
        refine ⟨?_, hB12⟩
        first | rfl | simp
end Go.Proofs.YtgpohndnkecbeaaDoor
