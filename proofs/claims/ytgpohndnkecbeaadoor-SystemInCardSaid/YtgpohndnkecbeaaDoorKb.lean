/- The law JournalCut, walked. -/
import Derived.Test.YtgpohndnkecbeaaDoorJf
namespace Go.Proofs.YtgpohndnkecbeaaDoor
open Go Go.RowKit Go.Proofs.Sc
theorem total_mem {l : List (List UInt8)} {r : List UInt8} (h : r ∈ l) : r.length ≤ total l := by
  induction l with
  | nil => cases h
  | cons x l ih =>
    rw [total_cons]
    rcases List.mem_cons.1 h with rfl | h
    · omega
    · have := ih h; omega
def CutRel (w : World) (n : Nat) (l : List (List UInt8)) (cut : Nat) (t i : Value) (wr : World) : Prop :=
  ∃ k : Nat, k ≤ n ∧ i = .int .i64 k ∧ t = .int .i64 (total (l.take k) : Nat) ∧ total (l.take k) ≤ cut ∧ wr = w
theorem Rs.strTake {w : World} {A : Option Addr} {n : Nat} {l : List ByteArray} (h : Rs w A n 1 (vs l)) {k : Nat} (hk : k ≤ n) : Rs w A k 1 (vs (l.take k)) := by
  have := h.take hk
  rw [Nat.mul_one] at this
  simpa [vs, List.map_take] using this
set_option maxRecDepth 100000 in
set_option maxHeartbeats 4000000 in
theorem cut_any (A : Option Addr) (n c : Nat) (l : List ByteArray) (cut : Int) (w : World) (hT : Turns w) (hnc : n ≤ c) (hA : A = none → c = 0) (hn : n ≤ 8796093022208) (hr : Rs w A n 1 (vs l)) (hs : ∀ s ∈ l, s.size ≤ 140737488355328) :
    Calls Tryd.prog 6 #[.slice A n c, .int .i64 cut] w fun e w' => e = .returned (.bool true) ∧ Below w.heap.size w w' := by
  have hT0 := hT.lt
  have hll := hr.slen
  go_enter Tryd.func6, Tryd.ntmps6
  go_wp2_with fail
  refine (awake41_any _ hT).mono ?_
  rintro e w1 ⟨rfl, hB1⟩
  have hT1 := hT.belowS hB1
  have hr1 := hr.below hB1
  by_cases hbig : (1000 : Int) < (n : Int)
  · go_wp2_with fail
    go_ret
    exact ⟨rfl, hB1⟩
  · have hn' : n ≤ 1000 := by omega
    go_wp2_with fail
    refine (total_any A n c 3000 l w1 hr1 (by omega) (by omega) (fun s h => Nat.le_trans (hs s h) (by omega))).mono ?_
    rintro e w2 ⟨⟨t, rfl, ht1, ht2⟩, rfl⟩
    by_cases htb : (3000 : Int) < (t : Int)
    · go_wp2_with fail
      go_ret
      exact ⟨rfl, hB1⟩
    · have htot : total (l.map fun r => r.data.toList) = t := ht1 (by omega)
      have ht : t ≤ 3000 := by omega
      clear ht1 ht2
      go_wp2_with fail
      refine (put_any A n c l w1 hT1 hn' hr1 (by omega)).mono ?_
      rintro e w2 ⟨rfl, hb2⟩
      obtain ⟨p, hp⟩ : ∃ p : ByteArray, p = ⟨(putB (l.map fun r => r.data.toList)).toArray⟩ := ⟨_, rfl⟩
      have hpl : p.data.toList = putB (l.map fun r => r.data.toList) := by rw [hp]
      have hps : p.size = t := by rw [← size_list, hpl, putB_len, htot]
      rw [← hp]
      have hB2 : Below w.heap.size w w2 := hB1.trans (hb2.mono hB1.size)
      have hT2 := hT1.belowS hb2
      have hr2 := hr1.below hb2
      clear hp hb2 hr1 hr hT1
      by_cases hneg : cut < 0
      · go_wp2_with fail
        go_ret
        exact ⟨rfl, hB2⟩
      · obtain ⟨q, rfl⟩ : ∃ q : Nat, cut = (q : Int) := ⟨cut.toNat, by omega⟩
        by_cases hgt : (p.size : Int) < (q : Int)
        · go_wp2_with fail
          go_ret
          exact ⟨rfl, hB2⟩
        · have hq : q ≤ p.size := by omega
          have hd : decide (p.size < q) = false := by simp; omega
          go_wp2_with fail
          go_loopw [7, 8] (fun t i wr => CutRel w2 n (l.map fun r => r.data.toList) q t i wr) (fun _ i _ => n - (intOf i).toNat)
          case atStart => exact ⟨0, by omega, rfl, rfl, by simp [total], rfl⟩
          case round =>
            obtain ⟨k, hk, rfl, rfl, htk, rfl⟩ := hrel
            obtain ⟨y, hy⟩ : ∃ y, y = total ((l.map fun r => r.data.toList).take k) := ⟨_, rfl⟩
            rw [← hy] at htk ⊢
            have fin : (k < n → q < total ((l.map fun r => r.data.toList).take (k + 1))) → lsts (l.take k) = reads 1000 (p.extract 0 q).data.toList := by
              intro hstop
              rw [extract_list, List.drop_zero, hpl, reads_cut (l.map fun r => r.data.toList) q k 1000 (by simp; omega) (by omega) ?_ (by omega) (by simpa [hll] using hstop)]
              · simp [lsts, List.map_take]
              · intro r hrm
                obtain ⟨x, hx, rfl⟩ := List.mem_map.1 hrm
                have h1 := total_mem hrm
                omega
            by_cases hlt : k < n
            · obtain ⟨g, o, rfl, hc⟩ := hr2.str hlt
              have hsucc := total_succ l k (by omega)
              have hsz : (gs l k).size ≤ 140737488355328 := hs _ (by simp [gs, show k < l.length by omega])
              obtain ⟨R, hR⟩ : ∃ R, R = gs l k := ⟨_, rfl⟩
              rw [← hR] at hc hsz hsucc
              clear hR
              by_cases hle : total ((l.map fun r => r.data.toList).take (k + 1)) ≤ q
              · have hle' : (y : Int) + (20 + (R.size : Int)) ≤ (q : Int) := by omega
                have hle2 : decide ((y : Int) + (20 + (R.size : Int)) ≤ (q : Int)) = true := by simp; omega
                go_wp2_with fail
                refine ⟨⟨k + 1, by omega, by go_num, ?_, hle, rfl⟩, by simp [intOf]; omega⟩
                rw [hsucc, ← hy]; congr 1; omega
              · have hstop := fin (fun _ => by omega)
                have hle2 : decide ((y : Int) + (20 + (R.size : Int)) ≤ (q : Int)) = false := by simp; omega
                have hkc : (k : Int) ≤ (c : Int) := by omega
                go_wp2_with fail
                refine (read_any (p.extract 0 q) _ hT2 (by rw [ByteArray.size_extract]; omega)).mono ?_
                rintro e w3 ⟨v, rs, rfl, hrs, hown, hb3⟩
                obtain ⟨A3, c3, rfl⟩ := own_slice hown
                obtain rfl : rs = l.take k := lsts_inj (hrs.trans hstop.symm)
                have hrA := Rs.of_own hown
                have hlk : (l.take k).length = k := by rw [List.length_take]; omega
                have hty : total (lsts (l.take k)) = y := by rw [hy]; simp [lsts, List.map_take]
                rw [hlk] at hrA ⊢
                rw [hty]
                have hr3 := (Rs.strTake hr2 (k := k) (by omega)).below hb3
                have hB3 := hB2.trans (hb3.mono hB2.size)
                clear hown hrs hy hty hstop
                go_wp2_with fail
                refine (list_any _ _ _ _ _ _ _ _ _ hrA hr3 (by omega)).mono ?_
                rintro e w4 ⟨rfl, hb4⟩
                rw [decide_eq_true rfl]
                have hB4 := hB3.trans (hb4.mono hB3.size)
                go_wp2_with fail
                go_ret
                exact ⟨rfl, hB4⟩
            · obtain rfl : k = n := by omega
              have hstop := fin (fun h => absurd h hlt)
              have hkc : (k : Int) ≤ (c : Int) := by omega
              go_wp2_with fail
              refine (read_any (p.extract 0 q) _ hT2 (by rw [ByteArray.size_extract]; omega)).mono ?_
              rintro e w3 ⟨v, rs, rfl, hrs, hown, hb3⟩
              obtain ⟨A3, c3, rfl⟩ := own_slice hown
              obtain rfl : rs = l.take k := lsts_inj (hrs.trans hstop.symm)
              have hrA := Rs.of_own hown
              have hlk : (l.take k).length = k := by rw [List.length_take]; omega
              have hty : total (lsts (l.take k)) = y := by rw [hy]; simp [lsts, List.map_take]
              rw [hlk] at hrA ⊢
              rw [hty]
              have hr3 := (Rs.strTake hr2 (k := k) (by omega)).below hb3
              have hB3 := hB2.trans (hb3.mono hB2.size)
              clear hown hrs hy hty hstop
              rcases A with _ | ad
              · obtain rfl := hA rfl
                obtain rfl : k = 0 := by omega
                go_wp2_with fail
                refine (list_any _ _ _ _ _ _ _ _ _ hrA hr3 (by omega)).mono ?_
                rintro e w4 ⟨rfl, hb4⟩
                rw [decide_eq_true rfl]
                have hB4 := hB3.trans (hb4.mono hB3.size)
                go_wp2_with fail
                go_ret
                exact ⟨rfl, hB4⟩
              · go_wp2_with fail
                refine (list_any _ _ _ _ _ _ _ _ _ hrA hr3 (by omega)).mono ?_
                rintro e w4 ⟨rfl, hb4⟩
                rw [decide_eq_true rfl]
                have hB4 := hB3.trans (hb4.mono hB3.size)
                go_wp2_with fail
                go_ret
                exact ⟨rfl, hB4⟩
end Go.Proofs.YtgpohndnkecbeaaDoor
