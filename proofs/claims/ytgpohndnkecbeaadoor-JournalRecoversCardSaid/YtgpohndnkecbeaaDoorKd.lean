/- The law JournalRecovers, walked. -/
import Derived.Test.YtgpohndnkecbeaaDoorKc
namespace Go.Proofs.YtgpohndnkecbeaaDoor
open Go Go.RowKit Go.Proofs.Sc
set_option maxRecDepth 100000 in
set_option maxHeartbeats 1500000 in
theorem recovers_any (A : Option Addr) (n c : Nat) (l : List ByteArray) (cut : Int) (A' : Option Addr) (n' c' : Nat) (l' : List ByteArray) (w : World) (hT : Turns w)
    (hnc : n ≤ c) (hA : A = none → c = 0) (hn : n ≤ 8796093022208) (hr : Rs w A n 1 (vs l)) (hs : ∀ s ∈ l, s.size ≤ 140737488355328)
    (hnc' : n' ≤ c') (hA' : A' = none → c' = 0) (hn' : n' ≤ 8796093022208) (hr' : Rs w A' n' 1 (vs l')) (hs' : ∀ s ∈ l', s.size ≤ 140737488355328) :
    Calls Tryd.prog 11 #[.slice A n c, .int .i64 cut, .slice A' n' c'] w fun e w' => e = .returned (.bool true) ∧ Below w.heap.size w w' := by
  have hT0 := hT.lt
  have hll := hr.slen
  have hll' := hr'.slen
  clear hA' hnc'
  go_enter Tryd.func11, Tryd.ntmps11
  go_wp2_with fail
  refine (awake41_any _ hT).mono ?_
  rintro e w1 ⟨rfl, hB1⟩
  have hT1 := hT.belowS hB1
  have hr1 := hr.below hB1
  have hr1' := hr'.below hB1
  clear hr hr' hT
  by_cases hbig : (1000 : Int) < (n : Int) + (n' : Int)
  · go_wp2_with fail
    go_ret
    exact ⟨rfl, hB1⟩
  · have hnn : n + n' ≤ 1000 := by omega
    go_wp2_with fail
    refine (total_any A n c 1500 l w1 hr1 (by omega) (by omega) (fun s h => Nat.le_trans (hs s h) (by omega))).mono ?_
    rintro e w2 ⟨⟨t, rfl, ht1, ht2⟩, rfl⟩
    by_cases htb : (1500 : Int) < (t : Int)
    · go_wp2_with fail
      go_ret
      exact ⟨rfl, hB1⟩
    have htot : total (l.map fun r => r.data.toList) = t := ht1 (by omega)
    have ht : t ≤ 1500 := by omega
    clear ht1 ht2 hs
    go_wp2_with fail
    refine (total_any A' n' c' 1500 l' w1 hr1' (by omega) (by omega) (fun s h => Nat.le_trans (hs' s h) (by omega))).mono ?_
    rintro e w2 ⟨⟨t', rfl, ht1, ht2⟩, rfl⟩
    by_cases htb' : (1500 : Int) < (t' : Int)
    · go_wp2_with fail
      go_ret
      exact ⟨rfl, hB1⟩
    have htot' : total (l'.map fun r => r.data.toList) = t' := ht1 (by omega)
    have ht' : t' ≤ 1500 := by omega
    clear ht1 ht2 hs'
    go_wp2_with fail
    refine (put_any A n c l w1 hT1 (by omega) hr1 (by omega)).mono ?_
    rintro e w2 ⟨rfl, hb2⟩
    obtain ⟨p, hp⟩ : ∃ p : ByteArray, p = ⟨(putB (l.map fun r => r.data.toList)).toArray⟩ := ⟨_, rfl⟩
    have hpl : p.data.toList = putB (l.map fun r => r.data.toList) := by rw [hp]
    have hps : p.size = t := by rw [← size_list, hpl, putB_len, htot]
    rw [← hp]
    have hB2 : Below w.heap.size w w2 := hB1.trans (hb2.mono hB1.size)
    have hT2 := hT1.belowS hb2
    have hr2 := hr1.below hb2
    have hr2' := hr1'.below hb2
    clear hp hb2 hr1 hr1' hT1
    go_wp2_with fail
    refine (put_any A' n' c' l' w2 hT2 (by omega) hr2' (by omega)).mono ?_
    rintro e w3 ⟨rfl, hb3⟩
    obtain ⟨p', hp'⟩ : ∃ p : ByteArray, p = ⟨(putB (l'.map fun r => r.data.toList)).toArray⟩ := ⟨_, rfl⟩
    have hpl' : p'.data.toList = putB (l'.map fun r => r.data.toList) := by rw [hp']
    have hps' : p'.size = t' := by rw [← size_list, hpl', putB_len, htot']
    rw [← hp']
    have hB3 : Below w.heap.size w w3 := hB2.trans (hb3.mono hB2.size)
    have hT3 := hT2.belowS hb3
    have hr3 := hr2.below hb3
    have hr3' := hr2'.below hb3
    clear hp' hb3 hr2 hr2' hT2 hB1 hB2
    by_cases hneg : cut < 0
    · go_wp2_with fail
      go_ret
      exact ⟨rfl, hB3⟩
    obtain ⟨q, rfl⟩ : ∃ q : Nat, cut = (q : Int) := ⟨cut.toNat, by omega⟩
    by_cases hgt : (p.size : Int) < (q : Int)
    · go_wp2_with fail
      go_ret
      exact ⟨rfl, hB3⟩
    have hq : q ≤ p.size := by omega
    have hd : decide (p.size < q) = false := by simp; omega
    go_wp2_with fail
    obtain ⟨many, hm1, hm2, hm3⟩ := cut_many (l.map fun r => r.data.toList) q
    rw [List.length_map] at hm1 hm3
    have hsmall : ∀ r ∈ l.map (fun r => r.data.toList), r.length < 4294967296 := small_of (k := 1500) (by omega) (by omega)
    refine (read_any (p.extract 0 q) w3 hT3 (by rw [ByteArray.size_extract]; omega)).mono ?_
    rintro e w4 ⟨v, rs, rfl, hrs, hown, hb4⟩
    obtain ⟨A4, c4, rfl⟩ := own_slice hown
    obtain rfl : rs = l.take many := by
      apply lsts_inj
      have h1 := reads_cut (l.map fun r => r.data.toList) q many 1000 (by simpa using hm1) (by omega) hsmall hm2 (by simpa using hm3)
      have h2 : (l.take many).map (fun r => r.data.toList) = (l.map fun r => r.data.toList).take many := List.map_take
      rw [h2, ← h1, ← hpl]
      rw [extract_list, List.drop_zero] at hrs
      exact hrs
    have hlm : (l.take many).length = many := by rw [List.length_take]; omega
    have hty : total (lsts (l.take many)) = total ((l.map fun r => r.data.toList).take many) := by simp [lsts, List.map_take]
    obtain ⟨y, hy⟩ : ∃ y, y = total ((l.map fun r => r.data.toList).take many) := ⟨_, rfl⟩
    rw [hlm, hty, ← hy]
    rw [← hy] at hm2
    have hB4 := hB3.trans (hb4.mono hB3.size)
    have hT4 := hT3.belowS hb4
    have hr4 := hr3.below hb4
    have hr4' := hr3'.below hb4
    have HY := Lib.hid hy
    have hd1 : decide ((y : Int) < 0) = false := by simp
    have hd2 : decide (q < y) = false := by simp; omega
    have hd3 : decide (n < many) = false := by simp; omega
    have hyp : (y : Int) ≤ (p.size : Int) := by omega
    clear hrs hown hb4 hr3 hr3' hT3 hB3 hty hy hm3
    go_wp2_with fail
    have hjl : (p.extract 0 y ++ p').data.toList = putB ((l.take many ++ l').map fun r => r.data.toList) := by
      rw [append_list, extract_list, List.drop_zero, hpl, hpl', List.map_append, putB_app, List.map_take]
      congr 1
      have e : putB (l.map fun r => r.data.toList) = putB ((l.map fun r => r.data.toList).take many) ++ putB ((l.map fun r => r.data.toList).drop many) := by rw [← putB_app, List.take_append_drop]
      rw [e, List.take_left' (by rw [putB_len, HY.out])]
    have hjs : (p.extract 0 y ++ p').size ≤ 900000 := by rw [ByteArray.size_append, ByteArray.size_extract]; omega
    obtain ⟨u, hu⟩ : ∃ u, u = p.extract 0 y ++ p' := ⟨_, rfl⟩
    rw [← hu] at hjl hjs ⊢
    clear hu
    refine (read_any u w4 hT4 hjs).mono ?_
    rintro e w5 ⟨v, rs, rfl, hrs, hown, hb5⟩
    obtain ⟨A5, c5, rfl⟩ := own_slice hown
    have hsm2 : ∀ r ∈ (l.take many ++ l').map (fun r => r.data.toList), r.length < 4294967296 := by
      intro r hr
      rw [List.map_append, List.mem_append] at hr
      rcases hr with hr | hr
      · rw [List.map_take] at hr; exact hsmall r (List.mem_of_mem_take hr)
      · exact small_of (k := 1500) (by omega) (by omega) r hr
    obtain rfl : rs = l.take many ++ l' := by
      apply lsts_inj
      have h1 := reads_all ((l.take many ++ l').map fun r => r.data.toList) 1000 (by simp; omega) hsm2
      rw [← h1, ← hjl]
      exact hrs
    have hrB := Rs.of_own hown
    have hty : total (lsts (l.take many ++ l')) = y + t' := by
      have : lsts (l.take many ++ l') = (l.map fun r => r.data.toList).take many ++ l'.map fun r => r.data.toList := by simp [lsts, List.map_take]
      rw [this, total_app, htot', ← HY.out]
    rw [hty]
    rw [List.length_append, hlm, hll'] at hrB ⊢
    have hB5 := hB4.trans (hb5.mono hB4.size)
    have hr5' := hr4'.below hb5
    have hr5 := Rs.strTake (hr4.below hb5) (k := many) (by omega)
    have hmc : (many : Int) ≤ (c : Int) := by omega
    clear hrs hown hb5 hr4 hr4' hT4 hB4 hty hsm2 hsmall hjl
    have hbs := run_empty w5
    have b5 : Below w5.heap.size w5 (w5.alloc (.cells #[] 9)) := (Below.refl _ _).alloc (Nat.le_refl _) _
    rcases A with _ | ad
    · obtain rfl := hA rfl
      obtain rfl : many = 0 := by omega
      go_wp2_with (first | (at_builtin; refine ap_rs 22 9 _ 1 16 Tryd.underlying22 infoStr rfl (by decide) (by decide) rfl _ _ rfl w5.heap.size _ 0 _ rfl (own_empty w5 9 1) none 0 0 (vs (l.take 0)) rfl (hr5.below b5) (vs_one _) (by omega) (by simp) ?_; intro v6 w6 hown6 hg6 hat6; have hb6 : Below w5.heap.size w5 w6 := b5.grown hg6 (by simp) (own_base (own_empty w5 9 1)); have hr6' : Rs w6 A' n' 1 (vs l') := hr5'.below hb6; have hsz6 : w5.heap.size ≤ w6.heap.size := hb6.size) | (at_builtin; refine ap_rs 22 9 _ 1 16 Tryd.underlying22 infoStr rfl (by decide) (by decide) rfl _ _ rfl w5.heap.size v6 (0 + 0) _ rfl hown6 A' n' c' (vs l') rfl hr6' (vs_one l') (by omega) (by omega) ?_; intro v7 w7 hown7 hg7 hat7; obtain ⟨A7, c7, rfl⟩ := own_slice hown7))
      have hb7 : Below w5.heap.size w5 w7 := hb6.grown hg7 hsz6 (own_base hown6)
      have hr7 : Rs w7 A7 n' 1 (vs (l.take 0 ++ l')) := by have := Rs.of_own hown7; rwa [Nat.zero_add, List.nil_append, ← vs_app] at this
      have hlist := list_any A5 A7 n' c5 n' c7 (l.take 0 ++ l') (l.take 0 ++ l') w7 ((by rwa [Nat.zero_add] at hrB : Rs w5 A5 n' 1 (vs (l.take 0 ++ l'))).below hb7) hr7 (by omega)
      refine hlist.mono ?_
      rintro e w8 ⟨rfl, hb8⟩
      rw [decide_eq_true rfl]
      have hB8 := (hB5.trans (hb7.mono hB5.size)).trans (hb8.mono (Nat.le_trans hB5.size hb7.size))
      clear hlist hr7 hb7 hown7 hg7 hat7 hown6 hg6 hat6 hr6' hsz6 hb6
      go_wp2_with fail
      go_ret
      exact ⟨rfl, hB8⟩
    · go_wp2_with (first | (at_builtin; refine ap_rs 22 9 _ 1 16 Tryd.underlying22 infoStr rfl (by decide) (by decide) rfl _ _ rfl w5.heap.size _ 0 _ rfl (own_empty w5 9 1) (some ad) many c (vs (l.take many)) rfl (hr5.below b5) (vs_one _) (by omega) (by simp) ?_; intro v6 w6 hown6 hg6 hat6; have hb6 : Below w5.heap.size w5 w6 := b5.grown hg6 (by simp) (own_base (own_empty w5 9 1)); have hr6' : Rs w6 A' n' 1 (vs l') := hr5'.below hb6; have hsz6 : w5.heap.size ≤ w6.heap.size := hb6.size) | (at_builtin; refine ap_rs 22 9 _ 1 16 Tryd.underlying22 infoStr rfl (by decide) (by decide) rfl _ _ rfl w5.heap.size v6 (0 + many) _ rfl hown6 A' n' c' (vs l') rfl hr6' (vs_one l') (by omega) (by omega) ?_; intro v7 w7 hown7 hg7 hat7; obtain ⟨A7, c7, rfl⟩ := own_slice hown7))
      have hb7 : Below w5.heap.size w5 w7 := hb6.grown hg7 hsz6 (own_base hown6)
      have hr7 : Rs w7 A7 (many + n') 1 (vs (l.take many ++ l')) := by have := Rs.of_own hown7; rwa [Nat.zero_add, List.nil_append, ← vs_app] at this
      have hlist := list_any A5 A7 (many + n') c5 (many + n') c7 (l.take many ++ l') (l.take many ++ l') w7 (hrB.below hb7) hr7 (by omega)
      refine hlist.mono ?_
      rintro e w8 ⟨rfl, hb8⟩
      rw [decide_eq_true rfl]
      have hB8 := (hB5.trans (hb7.mono hB5.size)).trans (hb8.mono (Nat.le_trans hB5.size hb7.size))
      clear hlist hr7 hb7 hown7 hg7 hat7 hown6 hg6 hat6 hr6' hsz6 hb6
      go_wp2_with fail
      go_ret
      exact ⟨rfl, hB8⟩
end Go.Proofs.YtgpohndnkecbeaaDoor
