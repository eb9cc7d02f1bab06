/- The law StoreSame, walked. -/
import Derived.Test.YtgpohndnkecbeaaDoorTh
namespace Go.Proofs.YtgpohndnkecbeaaDoor
open Go Go.RowKit Go.Proofs.Sc
theorem small_true (A : Option Addr) (n c : Nat) (l : List ByteArray) (w : World) (hf : fewP l 20 60) (hri : rightP l) (hr : Rs w A n 1 (vs l)) (hn : n ≤ 140737488355328) :
    Calls Tryd.prog 39 #[.agg #[.slice A n c]] w fun e w' => e = .returned (.bool true) ∧ Below w.heap.size w w' :=
  (small_any A n c l w hr hn).mono fun e w' ⟨⟨b, h1, h2⟩, h3⟩ => by
    obtain rfl : b = true := h2.2 ⟨hf, hri⟩
    exact ⟨h1, h3⟩
theorem small_false (A : Option Addr) (n c : Nat) (l : List ByteArray) (w : World) (hri : ¬ rightP l) (hr : Rs w A n 1 (vs l)) (hn : n ≤ 140737488355328) :
    Calls Tryd.prog 39 #[.agg #[.slice A n c]] w fun e w' => e = .returned (.bool false) ∧ Below w.heap.size w w' :=
  (small_any A n c l w hr hn).mono fun e w' ⟨⟨b, h1, h2⟩, h3⟩ => by
    cases b with
    | true => exact absurd (h2.1 rfl).2 hri
    | false => exact ⟨h1, h3⟩
def SameRel (w : World) (n c d : Nat) (A B : Option Addr) (l k : Dl) (i : Value) (wr : World) : Prop :=
  ∃ j : Nat, j ≤ n ∧ i = .int .i64 j ∧ DS wr A n c l ∧ DS wr B n d k ∧ Below w.heap.size w wr
set_option maxRecDepth 100000 in
set_option maxHeartbeats 2000000 in
theorem ssame_any (A : Option Addr) (n c : Nat) (la : List ByteArray) (B : Option Addr) (m d : Nat) (lb : List ByteArray) (w : World) (hT : Turns w) (_hnc : n ≤ c) (_hA : A = none → c = 0) (hn : n ≤ 140737488355328) (hr : Rs w A n 1 (vs la))
    (_hmd : m ≤ d) (_hB : B = none → d = 0) (hm : m ≤ 140737488355328) (hq : Rs w B m 1 (vs lb)) :
    Calls Tryd.prog 14 #[.agg #[.slice A n c], .agg #[.slice B m d]] w fun e w' => e = .returned (.bool true) ∧ Below w.heap.size w w' := by
  have hla := hr.slen
  have hlb := hq.slen
  clear _hnc _hA _hmd _hB
  go_enter Tryd.func14, Tryd.ntmps14
  obtain ⟨hs0, ht0, hB0⟩ := two_alloc w #[.slice A n c] #[.slice B m d] 34 34
  go_wp2_with fail
  refine (few_any A n c 20 60 la _ (hr.below hB0) hn (by omega) (by omega)).mono ?_
  rintro e w1 ⟨rfl, hb1⟩
  have hB1 := hB0.trans (hb1.mono hB0.size)
  have hs1 := hs0.belowS hb1
  have ht1 := ht0.belowS hb1
  have hT1 := hT.belowS hB1
  have t1 : w1.cell? ⟨w.heap.size + 1, 0, none⟩ = some (.slice B m d) := ht1.cell 0
  clear hs0 ht0 hB0 hb1
  by_cases hfa : fewP la 20 60
  case neg =>
    rw [decide_eq_false hfa]
    clear hfa
    go_wp2_with fail
    refine (awake42_any w1 hT1).mono ?_
    rintro e wz ⟨rfl, hbz⟩
    have hBz := hB1.trans (hbz.mono hB1.size)
    go_wp2_with fail
    go_ret
    exact ⟨rfl, hBz⟩
  rw [decide_eq_true hfa]
  have HFA := Lib.hid hfa
  have hn20 : n ≤ 20 := by have := hfa.1; omega
  have hsza : ∀ s ∈ la, s.size ≤ 1000000 := fun s h => by have := hfa.2 s h; omega
  clear hfa
  go_wp2_with fail
  refine (few_any B m d 20 60 lb w1 (hq.below hB1) hm (by omega) (by omega)).mono ?_
  rintro e w2 ⟨rfl, hb2⟩
  have hB2 := hB1.trans (hb2.mono hB1.size)
  have hs2 := hs1.belowS hb2
  have ht2 := ht1.belowS hb2
  have hT2 := hT.belowS hB2
  have s2 : w2.cell? ⟨w.heap.size, 0, none⟩ = some (.slice A n c) := hs2.cell 0
  have t2 : w2.cell? ⟨w.heap.size + 1, 0, none⟩ = some (.slice B m d) := ht2.cell 0
  clear hs1 ht1 hT1 t1 hB1 hb2
  by_cases hfb : fewP lb 20 60
  case neg =>
    rw [decide_eq_false hfb]
    clear hfb
    go_wp2_with fail
    refine (awake42_any w2 hT2).mono ?_
    rintro e wz ⟨rfl, hbz⟩
    have hBz := hB2.trans (hbz.mono hB2.size)
    go_wp2_with fail
    go_ret
    exact ⟨rfl, hBz⟩
  rw [decide_eq_true hfb]
  have HFB := Lib.hid hfb
  have hm20 : m ≤ 20 := by have := hfb.1; omega
  have hszb : ∀ s ∈ lb, s.size ≤ 1000000 := fun s h => by have := hfb.2 s h; omega
  clear hfb
  have hr2 := hr.below hB2
  have hq2 := hq.below hB2
  go_wp2_with fail
  refine (same_any A B n c m d la lb w2 hr2 hq2 hn).mono ?_
  rintro e w3 ⟨rfl, hb3⟩
  obtain ⟨z, hz⟩ : ∃ z, z = decide (la = lb) := ⟨_, rfl⟩
  rw [← hz]
  have HZ := Lib.hid hz
  clear hz
  have hB3 := hB2.trans (hb3.mono hB2.size)
  have hs3 := hs2.belowS hb3
  have ht3 := ht2.belowS hb3
  have hr3 := hr2.below hb3
  have hq3 := hq2.below hb3
  have s3 : w3.cell? ⟨w.heap.size, 0, none⟩ = some (.slice A n c) := hs3.cell 0
  have t3 : w3.cell? ⟨w.heap.size + 1, 0, none⟩ = some (.slice B m d) := ht3.cell 0
  clear hs2 ht2 hT2 s2 t2 hB2 hr2 hq2 hb3
  go_wp2_with fail
  refine (rsame_any A B n c m d la lb w3 hr3 hq3 hn).mono ?_
  rintro e w4 ⟨rfl, hb4⟩
  rw [← HZ.out]
  have hB4 := hB3.trans (hb4.mono hB3.size)
  have hs4 := hs3.belowS hb4
  have ht4 := ht3.belowS hb4
  have hr4 := hr3.below hb4
  have hq4 := hq3.below hb4
  have s4 : w4.cell? ⟨w.heap.size, 0, none⟩ = some (.slice A n c) := hs4.cell 0
  have t4 : w4.cell? ⟨w.heap.size + 1, 0, none⟩ = some (.slice B m d) := ht4.cell 0
  clear hs3 ht3 s3 t3 hB3 hr3 hq3 hb4
  have hfa := HFA.out
  have hfb := HFB.out
  have hzz : (z != z) = false := by simp
  by_cases hra : rightP la
  case neg =>
    have HRA := Lib.hid hra
    clear hra hfa hfb
    clear hzz
    cases z
    all_goals
      go_wp2_with fail
      first
        | (go_region_with (first
          | (go_at_call 39; refine (small_false A n c la _ HRA.out ?_ hn).mono ?_; exact hr4.drew; rintro e w5 ⟨rfl, hb5⟩; have hB5 := hB4.drew.trans (hb5.mono hB4.size); have hs5 := hs4.drew.belowS hb5; have ht5 := ht4.drew.belowS hb5; have s5 : w5.cell? ⟨w.heap.size, 0, none⟩ = some (.slice A n c) := hs5.cell 0; have t5 : w5.cell? ⟨w.heap.size + 1, 0, none⟩ = some (.slice B m d) := ht5.cell 0; have hr5 := hr4.drew.below hb5; have hq5 := hq4.drew.below hb5; have hT5 := hT.belowS hB5)))
        | fail
      all_goals
        go_wp2_with fail
        refine (awake42_any w5 hT5).mono ?_
        rintro e wz ⟨rfl, hbz⟩
        have hBz := hB5.trans (hbz.mono hB5.size)
        go_wp2_with fail
        go_ret
        exact ⟨rfl, hBz⟩
  by_cases hrb : rightP lb
  case neg =>
    have HRA := Lib.hid hra
    have HRB := Lib.hid hrb
    clear hra hrb
    clear hzz
    cases z
    all_goals
      go_wp2_with fail
      first
        | (go_region_with (first
          | (go_at_call 39; have h55 := hB5; refine (small_false B m d lb _ HRB.out ?_ hm).mono ?_; exact hq5; rintro e w6 ⟨rfl, hb6⟩; have hB6 := hB5.trans (hb6.mono hB5.size); have hs6 := hs5.belowS hb6; have ht6 := ht5.belowS hb6; have s6 : w6.cell? ⟨w.heap.size, 0, none⟩ = some (.slice A n c) := hs6.cell 0; have t6 : w6.cell? ⟨w.heap.size + 1, 0, none⟩ = some (.slice B m d) := ht6.cell 0; have hr6 := hr5.below hb6; have hq6 := hq5.below hb6; have hT6 := hT.belowS hB6)
          | (go_at_call 39; refine (small_true A n c la _ hfa HRA.out ?_ hn).mono ?_; exact hr4.drew; rintro e w5 ⟨rfl, hb5⟩; have hB5 := hB4.drew.trans (hb5.mono hB4.size); have hs5 := hs4.drew.belowS hb5; have ht5 := ht4.drew.belowS hb5; have s5 : w5.cell? ⟨w.heap.size, 0, none⟩ = some (.slice A n c) := hs5.cell 0; have t5 : w5.cell? ⟨w.heap.size + 1, 0, none⟩ = some (.slice B m d) := ht5.cell 0; have hr5 := hr4.drew.below hb5; have hq5 := hq4.drew.below hb5; have hT5 := hT.belowS hB5)))
        | fail
      all_goals
        go_wp2_with fail
        refine (awake42_any w6 hT6).mono ?_
        rintro e wz ⟨rfl, hbz⟩
        have hBz := hB6.trans (hbz.mono hB6.size)
        go_wp2_with fail
        go_ret
        exact ⟨rfl, hBz⟩
  have HRA := Lib.hid hra
  have HRB := Lib.hid hrb
  clear hra hrb hzz
  cases z with
  | true =>
    go_wp2_with fail
    go_region_with (first
        | (go_at_call 39; have h55 := hB5; refine (small_true B m d lb _ hfb HRB.out ?_ hm).mono ?_; exact hq5; rintro e w6 ⟨rfl, hb6⟩; have hB6 := hB5.trans (hb6.mono hB5.size); have hs6 := hs5.belowS hb6; have ht6 := ht5.belowS hb6; have s6 : w6.cell? ⟨w.heap.size, 0, none⟩ = some (.slice A n c) := hs6.cell 0; have t6 : w6.cell? ⟨w.heap.size + 1, 0, none⟩ = some (.slice B m d) := ht6.cell 0; have hr6 := hr5.below hb6; have hq6 := hq5.below hb6; have hT6 := hT.belowS hB6)
        | (go_at_call 39; refine (small_true A n c la _ hfa HRA.out ?_ hn).mono ?_; exact hr4.drew; rintro e w5 ⟨rfl, hb5⟩; have hB5 := hB4.drew.trans (hb5.mono hB4.size); have hs5 := hs4.drew.belowS hb5; have ht5 := ht4.drew.belowS hb5; have s5 : w5.cell? ⟨w.heap.size, 0, none⟩ = some (.slice A n c) := hs5.cell 0; have t5 : w5.cell? ⟨w.heap.size + 1, 0, none⟩ = some (.slice B m d) := ht5.cell 0; have hr5 := hr4.drew.below hb5; have hq5 := hq4.drew.below hb5; have hT5 := hT.belowS hB5))
    all_goals
      go_wp2_with fail
      refine (awake42_any w6 hT6).mono ?_
      rintro e wz ⟨rfl, hbz⟩
      have hBz := hB6.trans (hbz.mono hB6.size)
      go_wp2_with fail
      go_ret
      exact ⟨rfl, hBz⟩
  | false =>
    by_cases hh : n = m ∧ root (dgs la) = root (dgs lb)
    case neg =>
      have hh2 : (decide (n = m) && decide (root (dgs la) = root (dgs lb))) = false := by
        rw [Bool.and_eq_false_iff]
        by_cases h : n = m
        · exact .inr (decide_eq_false fun h2 => hh ⟨h, h2⟩)
        · exact .inl (decide_eq_false h)
      have HH := Lib.hid hh2
      clear hh hh2
      go_wp2_with fail
      go_region_held3 (fun X : World => X.cell? ⟨w.heap.size, 0, none⟩ = some (.slice A n c) ∧ X.cell? ⟨w.heap.size + 1, 0, none⟩ = some (.slice B m d)) (go_keep) (first
        | (go_at_call 39; have h55 := hB5; refine (small_true B m d lb _ hfb HRB.out ?_ hm).mono ?_; exact hq5; rintro e w6 ⟨rfl, hb6⟩; have hB6 := hB5.trans (hb6.mono hB5.size); have hs6 := hs5.belowS hb6; have ht6 := ht5.belowS hb6; have s6 : w6.cell? ⟨w.heap.size, 0, none⟩ = some (.slice A n c) := hs6.cell 0; have t6 : w6.cell? ⟨w.heap.size + 1, 0, none⟩ = some (.slice B m d) := ht6.cell 0; have hr6 := hr5.below hb6; have hq6 := hq5.below hb6; have hT6 := hT.belowS hB6)
        | (go_at_call 39; refine (small_true A n c la _ hfa HRA.out ?_ hn).mono ?_; exact hr4.drew; rintro e w5 ⟨rfl, hb5⟩; have hB5 := hB4.drew.trans (hb5.mono hB4.size); have hs5 := hs4.drew.belowS hb5; have ht5 := ht4.drew.belowS hb5; have s5 : w5.cell? ⟨w.heap.size, 0, none⟩ = some (.slice A n c) := hs5.cell 0; have t5 : w5.cell? ⟨w.heap.size + 1, 0, none⟩ = some (.slice B m d) := ht5.cell 0; have hr5 := hr4.drew.below hb5; have hq5 := hq4.drew.below hb5; have hT5 := hT.belowS hB5)
        | (go_at_call 32; have h77 := hB7; refine (head_any B m d lb w7 hT7 hq7 (by omega) hszb).mono ?_; rintro e w8 ⟨e0, e1, e2, e3, he, rfl, hb8⟩; have hB8 := hB7.trans (hb8.mono hB7.size); have hs8 := hs7.belowS hb8; have ht8 := ht7.belowS hb8; have s8 : w8.cell? ⟨w.heap.size, 0, none⟩ = some (.slice A n c) := hs8.cell 0; have t8 : w8.cell? ⟨w.heap.size + 1, 0, none⟩ = some (.slice B m d) := ht8.cell 0; have hr8 := hr7.below hb8; have hq8 := hq7.below hb8; have hT8 := hT.belowS hB8; have hde : (decide (n = m) && decide ([d0, d1, d2, d3] = [e0, e1, e2, e3])) = false := (by rw [← hd.out, ← he.out]; exact HH.out); have heq := eq_head n m d0 d1 d2 d3 e0 e1 e2 e3; rw [hde] at heq; clear hde)
        | (go_at_call 32; refine (head_any A n c la w6 hT6 hr6 (by omega) hsza).mono ?_; rintro e w7 ⟨d0, d1, d2, d3, hd, rfl, hb7⟩; have hB7 := hB6.trans (hb7.mono hB6.size); have hs7 := hs6.belowS hb7; have ht7 := ht6.belowS hb7; have s7 : w7.cell? ⟨w.heap.size, 0, none⟩ = some (.slice A n c) := hs7.cell 0; have t7 : w7.cell? ⟨w.heap.size + 1, 0, none⟩ = some (.slice B m d) := ht7.cell 0; have hr7 := hr6.below hb7; have hq7 := hq6.below hb7; have hT7 := hT.belowS hB7))
      all_goals
        go_wp2_with fail
        refine (awake42_any w8 hT8).mono ?_
        rintro e wz ⟨rfl, hbz⟩
        have hBz := hB8.trans (hbz.mono hB8.size)
        go_wp2_with fail
        go_ret
        exact ⟨rfl, hBz⟩
    have HH := Lib.hid hh
    clear hh
    go_wp2_with fail
    go_region_held3 (fun X : World => X.cell? ⟨w.heap.size, 0, none⟩ = some (.slice A n c) ∧ X.cell? ⟨w.heap.size + 1, 0, none⟩ = some (.slice B m d)) (go_keep) (first
        | (go_at_call 39; have h55 := hB5; refine (small_true B m d lb _ hfb HRB.out ?_ hm).mono ?_; exact hq5; rintro e w6 ⟨rfl, hb6⟩; have hB6 := hB5.trans (hb6.mono hB5.size); have hs6 := hs5.belowS hb6; have ht6 := ht5.belowS hb6; have s6 : w6.cell? ⟨w.heap.size, 0, none⟩ = some (.slice A n c) := hs6.cell 0; have t6 : w6.cell? ⟨w.heap.size + 1, 0, none⟩ = some (.slice B m d) := ht6.cell 0; have hr6 := hr5.below hb6; have hq6 := hq5.below hb6; have hT6 := hT.belowS hB6)
        | (go_at_call 39; refine (small_true A n c la _ hfa HRA.out ?_ hn).mono ?_; exact hr4.drew; rintro e w5 ⟨rfl, hb5⟩; have hB5 := hB4.drew.trans (hb5.mono hB4.size); have hs5 := hs4.drew.belowS hb5; have ht5 := ht4.drew.belowS hb5; have s5 : w5.cell? ⟨w.heap.size, 0, none⟩ = some (.slice A n c) := hs5.cell 0; have t5 : w5.cell? ⟨w.heap.size + 1, 0, none⟩ = some (.slice B m d) := ht5.cell 0; have hr5 := hr4.drew.below hb5; have hq5 := hq4.drew.below hb5; have hT5 := hT.belowS hB5)
        | (go_at_call 32; have h77 := hB7; refine (head_any B m d lb w7 hT7 hq7 (by omega) hszb).mono ?_; rintro e w8 ⟨e0, e1, e2, e3, he, rfl, hb8⟩; have hB8 := hB7.trans (hb8.mono hB7.size); have hs8 := hs7.belowS hb8; have ht8 := ht7.belowS hb8; have s8 : w8.cell? ⟨w.heap.size, 0, none⟩ = some (.slice A n c) := hs8.cell 0; have t8 : w8.cell? ⟨w.heap.size + 1, 0, none⟩ = some (.slice B m d) := ht8.cell 0; have hr8 := hr7.below hb8; have hq8 := hq7.below hb8; have hT8 := hT.belowS hB8; have hde : [d0, d1, d2, d3] = [e0, e1, e2, e3] := (by rw [← hd.out, ← he.out]; exact HH.out.2); have heq := eq_head n m d0 d1 d2 d3 e0 e1 e2 e3; rw [decide_eq_true HH.out.1, decide_eq_true hde, Bool.and_self] at heq; clear hde)
        | (go_at_call 32; refine (head_any A n c la w6 hT6 hr6 (by omega) hsza).mono ?_; rintro e w7 ⟨d0, d1, d2, d3, hd, rfl, hb7⟩; have hB7 := hB6.trans (hb7.mono hB6.size); have hs7 := hs6.belowS hb7; have ht7 := ht6.belowS hb7; have s7 : w7.cell? ⟨w.heap.size, 0, none⟩ = some (.slice A n c) := hs7.cell 0; have t7 : w7.cell? ⟨w.heap.size + 1, 0, none⟩ = some (.slice B m d) := ht7.cell 0; have hr7 := hr6.below hb7; have hq7 := hq6.below hb7; have hT7 := hT.belowS hB7))
    clear hb5 hb6 hb7 hb8 hs4 ht4 hs5 ht5 hs6 ht6 hs7 ht7 hB4 hB5 hB6 hB7 hr4 hq4 hr5 hq5 hr6 hq6 hr7 hq7 s4 t4 s5 t5 s6 t6 s7 t7 hT5 hT6 hT7 heq
    go_wp2_with fail
    go_region_held3 (fun X : World => X.cell? ⟨w.heap.size, 0, none⟩ = some (.slice A n c) ∧ X.cell? ⟨w.heap.size + 1, 0, none⟩ = some (.slice B m d)) (go_keep) (first
      | (go_at_call 47; have h99 := hB9; refine (rdigests_any B m d lb w9 hq9 (by omega) hszb).mono ?_; rintro e w10 ⟨v10, rfl, hown10, hb10⟩; have hB10 := hB9.trans (hb10.mono hB9.size); have hs10 := hs9.belowS hb10; have ht10 := ht9.belowS hb10; have s10 : w10.cell? ⟨w.heap.size, 0, none⟩ = some (.slice A n c) := hs10.cell 0; have t10 : w10.cell? ⟨w.heap.size + 1, 0, none⟩ = some (.slice B m d) := ht10.cell 0; have hr10 := hr9.below hb10; have hq10 := hq9.below hb10; have hT10 := hT.belowS hB10; have hown9' := own_below hown9 hb10)
      | (go_at_call 47; refine (rdigests_any A n c la _ ?_ (by omega) hsza).mono ?_; exact hr8.drew; rintro e w9 ⟨v9, rfl, hown9, hb9⟩; have hB9 := hB8.drew.trans (hb9.mono hB8.size); have hs9 := hs8.drew.belowS hb9; have ht9 := ht8.drew.belowS hb9; have s9 : w9.cell? ⟨w.heap.size, 0, none⟩ = some (.slice A n c) := hs9.cell 0; have t9 : w9.cell? ⟨w.heap.size + 1, 0, none⟩ = some (.slice B m d) := ht9.cell 0; have hr9 := hr8.drew.below hb9; have hq9 := hq8.drew.below hb9; have hT9 := hT.belowS hB9))
    have hmn := HH.out.1
    have hroot := HH.out.2
    rw [← hmn] at hown10
    have HMN := Lib.hid hmn
    have HR := Lib.hid hroot
    obtain ⟨A9, c9, rfl, hds9⟩ := ds_own hown9' (dgs_wl la) (by rw [dgs_len]; exact hla)
    obtain ⟨B9, d9, rfl, hde9⟩ := ds_own hown10 (dgs_wl lb) (by rw [dgs_len, hlb, HMN.out])
    clear hmn hroot hown9 hown10 hown9' hb9 hb10 hs8 ht8 hs9 ht9 hB8 hB9 hr8 hq8 hr9 hq9 s8 t8 s9 t9 hT8 hT9 hs10 ht10 s10 t10 hr10 hq10
    go_wp2_with fail
    go_loopw [8] (fun i wr => SameRel w n c9 d9 A9 B9 (dgs la) (dgs lb) i wr) (fun i _ => n - (intOf i).toNat)
    case atStart => exact ⟨0, by omega, rfl, hds9, hde9, hB10⟩
    case round =>
      obtain ⟨j, hj, rfl, hdx, hdy, hB⟩ := hrel
      obtain ⟨w2, rfl⟩ : ∃ w2 : World, w2 = wr := ⟨_, rfl⟩
      clear hds9 hde9 hB10 hT10
      have hT2 := hT.belowS hB
      by_cases hlt : j < n
      · obtain ⟨g, o, x0, x1, x2, x3, rfl, hgx, -, c0, c1, c2, c3⟩ := hdx.dig (k := j) hlt
        obtain ⟨g', o', y0, y1, y2, y3, rfl, hgy, -, e0, e1, e2, e3⟩ := hdy.dig (k := j) hlt
        have hdd : decide (j < n) = true := by simp; omega
        have hin : (j : Int) < (n : Int) := by omega
        have heq := eq_dig x0 x1 x2 x3 y0 y1 y2 y3
        by_cases hxy : [x0, x1, x2, x3] = [y0, y1, y2, y3]
        · rw [decide_eq_true hxy] at heq
          clear hgx hgy hxy
          go_wp2_with fail
          go_region
          go_wp2_with fail
          exact ⟨⟨j + 1, by omega, by go_num, hdx.drew, hdy.drew, hB.drew⟩, by simp [intOf]; omega⟩
        · rw [decide_eq_false hxy] at heq
          have hne : dgs la ≠ dgs lb := by
            intro h
            rw [h, hgy] at hgx
            exact hxy hgx.symm
          have HX := Lib.hid hne
          clear hne hgx hgy hxy
          go_wp2_with fail
          go_region
          go_wp2_with fail
          refine (rclash_any n (dgs la) (dgs lb) (some ⟨g, o, none⟩) (some ⟨g', o', none⟩) n c9 d9 _ (Nat.le_refl _) (by omega) ?_ ?_ HX.out HR.out).mono ?_
          · exact hdx.drew
          · exact hdy.drew
          rintro e w3 ⟨p0, p1, p2, p3, p4, p5, p6, p7, q0, q1, q2, q3, q4, q5, q6, q7, rfl, hb3⟩
          have hB3 := hB.drew.trans (hb3.mono hB.size)
          obtain ⟨-, -, hBa⟩ := two_alloc w3 #[.int .u32 p0, .int .u32 p1, .int .u32 p2, .int .u32 p3, .int .u32 p4, .int .u32 p5, .int .u32 p6, .int .u32 p7] #[.int .u32 q0, .int .u32 q1, .int .u32 q2, .int .u32 q3, .int .u32 q4, .int .u32 q5, .int .u32 q6, .int .u32 q7] 74 74
          have hB3' := hB3.trans (hBa.mono hB3.size)
          clear hb3 hBa heq
          go_wp2_with fail
          refine (awake42_any _ ?_).mono ?_
          · exact hT.belowS hB3'
          rintro e w4 ⟨rfl, hb4⟩
          have hB4 := hB3'.trans (hb4.mono hB3'.size)
          go_wp2_with fail
          go_ret
          exact ⟨rfl, hB4⟩
      · obtain rfl : j = n := by omega
        have hdd : decide (j < j) = false := by simp
        clear hlt
        go_wp2_with fail
        refine (awake42_any w2 hT2).mono ?_
        rintro e w4 ⟨rfl, hb4⟩
        have hB4 := hB.trans (hb4.mono hB.size)
        go_wp2_with fail
        go_ret
        exact ⟨rfl, hB4⟩
end Go.Proofs.YtgpohndnkecbeaaDoor
