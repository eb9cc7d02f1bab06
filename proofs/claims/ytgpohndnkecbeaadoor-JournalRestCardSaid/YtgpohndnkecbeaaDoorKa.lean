/- The law JournalRest, walked. -/
import Derived.Test.YtgpohndnkecbeaaDoorJf
namespace Go.Proofs.YtgpohndnkecbeaaDoor
open Go Go.RowKit Go.Proofs.Sc
set_option maxRecDepth 100000 in
set_option maxHeartbeats 2000000 in
theorem rest_any (s : ByteArray) (w : World) (hT : Turns w) :
    Calls Tryd.prog 10 #[.string s] w fun e w' => e = .returned (.bool true) ∧ Below w.heap.size w w' := by
  have hT0 := hT.lt
  go_enter Tryd.func10, Tryd.ntmps10
  go_wp2_with fail
  refine (awake41_any _ hT).mono ?_
  rintro e w1 ⟨rfl, hB1⟩
  have hT1 := hT.belowS hB1
  by_cases hbig : (3000 : Int) < (s.size : Int)
  · go_wp2_with fail
    go_ret
    exact ⟨rfl, hB1⟩
  · have hs : s.size ≤ 3000 := by omega
    have hs' : (s.size : Int) ≤ 3000 := by omega
    go_wp2_with fail
    refine (read_any s w1 hT1 (by omega)).mono ?_
    rintro e w2 ⟨v, rs, rfl, hrs, hown, hb2⟩
    have hB2 : Below w.heap.size w w2 := hB1.trans (hb2.mono hB1.size)
    have hT2 := hT1.belowS hb2
    obtain ⟨A, c, rfl⟩ := own_slice hown
    have hrA := Rs.of_own hown
    have hrl : rs.length ≤ 1000 := by
      have := reads_len 1000 s.data.toList
      rwa [← hrs, lsts_len] at this
    have htl : total (lsts rs) ≤ s.size := by
      have := reads_total 1000 s.data.toList
      rwa [← hrs, size_list] at this
    have h20 := total_ge (lsts rs)
    rw [lsts_len] at h20
    have hno : firstP (s.data.toList.drop (total (lsts rs))) = none := by
      rw [hrs]
      refine reads_rest 1000 s.data.toList ?_
      rw [← hrs, lsts_len]; omega
    have hpre : s.data.toList.take (total (lsts rs)) = putB (lsts rs) := by
      have h := reads_prefix 1000 s.data.toList
      rw [← hrs] at h
      have h2 := congrArg (List.take (total (lsts rs))) h
      rwa [List.take_left' (putB_len _)] at h2
    obtain ⟨t, ht⟩ : ∃ t, t = total (lsts rs) := ⟨_, rfl⟩
    have htp : total (rs.map fun r => r.data.toList) ≤ 800000 := by
      have : total (lsts rs) ≤ 800000 := by omega
      exact this
    rw [← ht] at htl hno hpre h20 ⊢
    clear ht
    have htl' : (t : Int) ≤ (s.size : Int) := by omega
    have hd1 : decide ((t : Int) < 0) = false := by simp
    have hd2 : decide (s.size < t) = false := by simp; omega
    clear hown hrs
    go_wp2_with fail
    refine (put_any _ _ c rs _ hT2 hrl hrA htp).mono ?_
    rintro e w3 ⟨rfl, hb3⟩
    have hB3 : Below w.heap.size w w3 := hB2.trans (hb3.mono hB2.size)
    have hT3 := hT2.belowS hb3
    obtain ⟨p, hp⟩ : ∃ p : ByteArray, p = ⟨(putB (rs.map fun r => r.data.toList)).toArray⟩ := ⟨_, rfl⟩
    have hpl : p.data.toList = putB (lsts rs) := by rw [hp]; rfl
    rw [← hp]
    clear hp
    go_wp2_with fail
    have hcut : (s.extract t s.size).data.toList = s.data.toList.drop t := by
      rw [extract_list, ← size_list, List.take_of_length_le (Nat.le_refl _)]
    obtain ⟨q, hq⟩ : ∃ q, q = s.extract t s.size := ⟨_, rfl⟩
    have hqs : q.size ≤ 3000 := by rw [hq, ByteArray.size_extract]; omega
    rw [← hq] at hcut ⊢
    clear hq
    refine (read_any q w3 hT3 (by omega)).mono ?_
    rintro e w4 ⟨v, rs2, rfl, hrs2, hown2, hb4⟩
    rw [hcut, reads_of_none _ hno] at hrs2
    obtain rfl : rs2 = [] := by cases rs2 with | nil => rfl | cons _ _ => simp [lsts] at hrs2
    obtain ⟨A2, c2, rfl⟩ := own_slice hown2
    have h0 : total (lsts []) = 0 := rfl
    rw [h0]
    have heq : (p.toList == (s.extract 0 t).toList) = true := by
      rw [Lib.toList_data, Lib.toList_data, hpl, extract_list, List.drop_zero, hpre]; simp
    have hB4 := hB3.trans (hb4.mono hB3.size)
    go_wp2_with fail
    go_ret
    exact ⟨rfl, hB4⟩
end Go.Proofs.YtgpohndnkecbeaaDoor
