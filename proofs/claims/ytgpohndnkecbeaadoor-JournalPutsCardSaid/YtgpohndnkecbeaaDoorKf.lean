/- The laws JournalPuts, JournalReads, walked. -/
import Derived.Test.YtgpohndnkecbeaaDoorRi
import Derived.Test.YtgpohndnkecbeaaDoorKb
namespace Go.Proofs.YtgpohndnkecbeaaDoor
open Go Go.RowKit Go.Proofs.Sc
set_option maxRecDepth 100000 in
set_option maxHeartbeats 1000000 in
theorem reads_any (s : ByteArray) (w : World) (hT : Turns w) :
    Calls Tryd.prog 4 #[.string s] w fun e w' => e = .returned (.bool true) ∧ Below w.heap.size w w' := by
  have hT0 := hT.lt
  go_enter Tryd.func4, Tryd.ntmps4
  go_wp2_with fail
  refine (awake41_any _ hT).mono ?_
  rintro e w1 ⟨rfl, hB1⟩
  have hT1 := hT.belowS hB1
  by_cases hbig : (3000 : Int) < (s.size : Int)
  · go_wp2_with fail
    go_ret
    exact ⟨rfl, hB1⟩
  · have hs : s.size ≤ 3000 := by omega
    have hs' : (s.size : Int) ≤ 3000 := by omega
    go_wp2_with fail
    refine (read_any s w1 hT1 (by omega)).mono ?_
    rintro e w2 ⟨v, rs, rfl, hrs, hown, hb2⟩
    have hB2 : Below w.heap.size w w2 := hB1.trans (hb2.mono hB1.size)
    obtain ⟨A, c, rfl⟩ := own_slice hown
    have hrA := Rs.of_own hown
    obtain ⟨t, ht⟩ : ∃ t, t = total (lsts rs) := ⟨_, rfl⟩
    rw [← ht]
    have HT := Lib.hid ht
    have HRS := Lib.hid hrs
    clear hown ht hrs
    go_wp2_with fail
    refine (rread_any s w2 (by omega)).mono ?_
    rintro e w3 ⟨v, rs2, rfl, hrs2, hown2, hb3⟩
    have hB3 := hB2.trans (hb3.mono hB2.size)
    obtain rfl : rs = rs2 := lsts_inj (HRS.out.trans hrs2.symm)
    rw [← HT.out]
    obtain ⟨A2, c2, rfl⟩ := own_slice hown2
    have hrB := Rs.of_own hown2
    have hrA3 := hrA.below hb3
    have hrl : rs.length ≤ 1000 := by
      have := reads_len 1000 s.data.toList
      rwa [← HRS.out, lsts_len] at this
    clear hown2 hrs2 hrA
    go_wp2_with fail
    refine (list_any _ _ _ _ _ _ rs rs _ hrA3 hrB (by omega)).mono ?_
    rintro e w4 ⟨rfl, hb4⟩
    rw [decide_eq_true rfl]
    have hB4 := hB3.trans (hb4.mono hB3.size)
    go_wp2_with fail
    go_ret
    exact ⟨rfl, hB4⟩
set_option maxRecDepth 100000 in
set_option maxHeartbeats 400000 in
theorem rput_many (A : Option Addr) (n c : Nat) (w : World) (hn : 1000 < n) (hn2 : n ≤ 9223372036854775807) :
    Calls Tryd.prog 23 #[.slice A n c] w fun e w' => e = .returned (.tuple #[.string ⟨#[]⟩, .int .i64 2]) ∧ w = w' := by
  have h1 : (1000 : Int) < (n : Int) := by omega
  go_enter Tryd.func23, Tryd.ntmps23
  go_wp2_with fail
  go_ret2
  exact ⟨rfl, rfl⟩
set_option maxRecDepth 100000 in
set_option maxHeartbeats 1000000 in
theorem puts_any (A : Option Addr) (n c : Nat) (l : List ByteArray) (w : World) (hT : Turns w) (_hnc : n ≤ c) (_hA : A = none → c = 0) (hn : n ≤ 8796093022208) (hr : Rs w A n 1 (vs l)) (hs : ∀ s ∈ l, s.size ≤ 140737488355328) :
    Calls Tryd.prog 3 #[.slice A n c] w fun e w' => e = .returned (.bool true) ∧ Below w.heap.size w w' := by
  go_enter Tryd.func3, Tryd.ntmps3
  go_wp2_with fail
  refine (awake41_any _ hT).mono ?_
  rintro e w1 ⟨rfl, hB1⟩
  have hT1 := hT.belowS hB1
  have hr1 := hr.below hB1
  by_cases hbig : (1000 : Int) < (n : Int)
  · have hd : decide ((n : Int) ≤ 1000) = false := by simp; omega
    go_wp2_with fail
    refine (put_many A n c w1 (by omega) (by omega)).mono ?_
    rintro e w2 ⟨rfl, rfl⟩
    go_wp2_with fail
    refine (rput_many A n c w1 (by omega) (by omega)).mono ?_
    rintro e w2 ⟨rfl, rfl⟩
    go_wp2_with fail
    refine (read_any _ w1 hT1 (by decide)).mono ?_
    rintro e w2 ⟨v, rs, rfl, hrs, hown, hb2⟩
    obtain ⟨A2, c2, rfl⟩ := own_slice hown
    have hB2 : Below w.heap.size w w2 := hB1.trans (hb2.mono hB1.size)
    clear hown hrs
    go_wp2_with fail
    go_ret
    exact ⟨rfl, hB2⟩
  · have hn' : n ≤ 1000 := by omega
    have hd : decide ((n : Int) ≤ 1000) = true := by simp; omega
    have hll := hr.slen
    go_wp2_with fail
    refine (total_any A n c 3000 l w1 hr1 (by omega) (by omega) (fun s h => Nat.le_trans (hs s h) (by omega))).mono ?_
    rintro e w2 ⟨⟨t, rfl, ht1, ht2⟩, rfl⟩
    by_cases htb : (3000 : Int) < (t : Int)
    · go_wp2_with fail
      go_ret
      exact ⟨rfl, hB1⟩
    · have htot : total (l.map fun r => r.data.toList) = t := ht1 (by omega)
      have ht : t ≤ 3000 := by omega
      have hall := reads_all (l.map fun r => r.data.toList) 1000 (by simp; omega) (by
        intro r hrm
        have h1 := total_mem hrm
        omega)
      have HALL := Lib.hid hall
      clear ht1 ht2 hall
      go_wp2_with fail
      refine (put_any A n c l w1 hT1 hn' hr1 (by omega)).mono ?_
      rintro e w2 ⟨rfl, hb2⟩
      obtain ⟨p, hp⟩ : ∃ p : ByteArray, p = ⟨(putB (l.map fun r => r.data.toList)).toArray⟩ := ⟨_, rfl⟩
      have hpl : p.data.toList = putB (l.map fun r => r.data.toList) := by rw [hp]
      have hps : t = p.size := by rw [← size_list, hpl, putB_len, htot]
      rw [← hp]
      subst hps
      have hB2 : Below w.heap.size w w2 := hB1.trans (hb2.mono hB1.size)
      have hT2 := hT1.belowS hb2
      have hr2 := hr1.below hb2
      have HP := Lib.hid hp
      have HPL := Lib.hid hpl
      clear hp hpl hb2 hr1 hr hT1
      go_wp2_with fail
      refine (rput_any A n c l w2 hn' hr2 (by omega)).mono ?_
      rintro e w3 ⟨rfl, hb3⟩
      rw [← HP.out]
      have hB3 := hB2.trans (hb3.mono hB2.size)
      have hT3 := hT2.belowS hb3
      have hr3 := hr2.below hb3
      clear hb3 hr2 hT2
      go_wp2_with fail
      refine (read_any p w3 hT3 (by omega)).mono ?_
      rintro e w4 ⟨v, rs, rfl, hrs, hown, hb4⟩
      have hB4 := hB3.trans (hb4.mono hB3.size)
      obtain ⟨A2, c2, rfl⟩ := own_slice hown
      obtain rfl : rs = l := lsts_inj (hrs.trans (by rw [HPL.out, HALL.out]))
      have hrA := Rs.of_own hown
      have hr4 := hr3.below hb4
      have htl : total (lsts rs) = p.size := htot
      rw [htl]
      rw [hll] at hrA ⊢
      clear hown hrs hll
      go_wp2_with fail
      refine (list_any _ _ _ _ _ _ rs rs _ hrA hr4 (by omega)).mono ?_
      rintro e w5 ⟨rfl, hb5⟩
      rw [decide_eq_true rfl]
      have hB5 := hB4.trans (hb5.mono hB4.size)
      go_wp2_with fail
      go_ret
      exact ⟨rfl, hB5⟩
end Go.Proofs.YtgpohndnkecbeaaDoor
