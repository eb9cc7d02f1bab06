/- Contracts: ref41.Total, ref41.List. -/
import Derived.Test.YtgpohndnkecbeaaDoorJd
namespace Go.Proofs.YtgpohndnkecbeaaDoor
open Go Go.RowKit Go.Proofs.Sc
theorem total_succ (l : List ByteArray) (k : Nat) (hk : k < l.length) : total ((l.map fun r => r.data.toList).take (k + 1)) = total ((l.map fun r => r.data.toList).take k) + (20 + (gs l k).size) := by
  rw [List.take_succ_eq_append_getElem (by simpa using hk), total_app]
  congr 1
  simp [total, gs, hk]
def TotRel (w : World) (n m : Nat) (l : List (List UInt8)) (i t : Value) (wr : World) : Prop :=
  ∃ k : Nat, k ≤ n ∧ i = .int .i64 k ∧ t = .int .i64 (total (l.take k) : Nat) ∧ wr = w ∧ (∀ j, j < k → total (l.take j) ≤ m)
set_option maxRecDepth 100000 in
set_option maxHeartbeats 1000000 in
theorem total_any (A : Option Addr) (n c m : Nat) (l : List ByteArray) (w : World) (hr : Rs w A n 1 (vs l)) (hn : n ≤ 1000000000000000) (hm : m ≤ 1000000) (hs : ∀ s ∈ l, s.size ≤ 1125899906842624) :
    Calls Tryd.prog 21 #[.slice A n c, .int .i64 (m : Nat)] w fun e w' => (∃ t : Nat, e = .returned (.int .i64 t) ∧ (t ≤ m → total (l.map fun r => r.data.toList) = t) ∧ (m < t → m < total (l.map fun r => r.data.toList))) ∧ w = w' := by
  have hll := hr.slen
  go_enter Tryd.func21, Tryd.ntmps21
  go_wp2_with fail
  go_loopw [6, 5] (fun i t wr => TotRel w n m (l.map fun r => r.data.toList) i t wr) (fun i _ _ => n - (intOf i).toNat)
  case atStart => exact ⟨0, by omega, rfl, rfl, rfl, by omega⟩
  case round =>
    obtain ⟨k, hk, rfl, rfl, rfl, hj⟩ := hrel
    obtain ⟨t, ht⟩ : ∃ t, t = total ((l.map fun r => r.data.toList).take k) := ⟨_, rfl⟩
    rw [← ht]
    by_cases hlt : k < n
    · obtain ⟨g, o, rfl, hc⟩ := hr.str hlt
      by_cases hle : t ≤ m
      · have hsz : (gs l k).size ≤ 1125899906842624 := hs _ (by simp [gs, show k < l.length by omega])
        have hsucc := total_succ l k (by omega)
        obtain ⟨R, hR⟩ : ∃ R, R = gs l k := ⟨_, rfl⟩
        rw [← hR] at hc hsz hsucc
        clear hR
        go_wp2_with fail
        refine ⟨⟨k + 1, by omega, by go_num, ?_, rfl, ?_⟩, by simp [intOf]; omega⟩
        · rw [hsucc, ← ht]; congr 1; omega
        · intro j hj'
          rcases Nat.lt_or_ge j k with h | h
          · exact hj j h
          · obtain rfl : j = k := by omega
            omega
      · go_wp2_with fail
        go_ret
        refine ⟨⟨t, rfl, by omega, fun _ => ?_⟩, rfl⟩
        have := total_take_le (l.map fun r => r.data.toList) k
        omega
    · obtain rfl : k = n := by omega
      rw [List.take_of_length_le (by simp; omega)] at ht
      go_wp2_with fail
      go_ret
      exact ⟨⟨t, rfl, by omega, by omega⟩, rfl⟩
theorem list_ext_gs {l k : List ByteArray} (hl : l.length = k.length) (h : ∀ i, i < l.length → gs l i = gs k i) : l = k := by
  apply List.ext_getElem hl
  intro i h1 h2
  have := h i h1
  simpa [gs, h1, h2] using this
def ListRel (w : World) (n : Nat) (l k : List ByteArray) (i : Value) (wr : World) : Prop :=
  ∃ j : Nat, j ≤ n ∧ i = .int .i64 j ∧ (∀ i, i < j → gs l i = gs k i) ∧ Below w.heap.size w wr
set_option maxRecDepth 100000 in
set_option maxHeartbeats 1000000 in
theorem list_any (A B : Option Addr) (n c m d : Nat) (l k : List ByteArray) (w : World) (hr : Rs w A n 1 (vs l)) (hq : Rs w B m 1 (vs k)) (hn : n ≤ 1000000000) :
    Calls Tryd.prog 25 #[.slice A n c, .slice B m d] w fun e w' => e = .returned (.bool (decide (l = k))) ∧ Below w.heap.size w w' := by
  have hll := hr.slen
  have hkk := hq.slen
  by_cases hnm : n = m
  · subst hnm
    go_enter Tryd.func25, Tryd.ntmps25
    go_wp2_with fail
    go_loopw [5] (fun i wr => ListRel w n l k i wr) (fun i _ => n - (intOf i).toNat)
    case atStart => exact ⟨0, by omega, rfl, by omega, Below.refl _ _⟩
    case round =>
      obtain ⟨j, hj, rfl, heq, hB⟩ := hrel
      obtain ⟨w2, rfl⟩ : ∃ w2 : World, w2 = wr := ⟨_, rfl⟩
      by_cases hlt : j < n
      · obtain ⟨g, o, rfl, hc⟩ := (hr.below hB).str hlt
        obtain ⟨g2, o2, rfl, hc2⟩ := (hq.below hB).str hlt
        go_wp2_with fail
        go_region
        go_wp2_with fail
        · rename_i hx
          have hg : ¬ gs l j = gs k j := fun h => by rw [h] at hx; simp at hx
          go_ret
          exact ⟨by rw [decide_eq_false (fun h => hg (by rw [h]))]; rfl, hB.drew⟩
        · rename_i hx
          have hg : gs l j = gs k j := by
            have h : (gs l j).toList = (gs k j).toList := by simpa using hx
            rw [Lib.toList_data, Lib.toList_data] at h
            exact ByteArray.ext (Array.ext' h)
          refine ⟨⟨j + 1, by omega, by go_num, ?_, hB.drew⟩, by simp [intOf]; omega⟩
          intro i hi
          rcases Nat.lt_or_ge i j with h | h
          · exact heq i h
          · obtain rfl : i = j := by omega
            exact hg
      · obtain rfl : j = n := by omega
        go_wp2_with fail
        go_ret
        refine ⟨?_, hB⟩
        rw [decide_eq_true (list_ext_gs (by omega) (by rw [hll]; exact heq))]; rfl
  · have hne : ((n : Int) != m) = true := by simp; omega
    have hne2 : ¬ (n : Int) = m := by omega
    go_enter Tryd.func25, Tryd.ntmps25
    go_wp2_with fail
    go_ret
    refine ⟨?_, Below.refl _ _⟩
    rw [decide_eq_false (by rintro rfl; omega)]; rfl
end Go.Proofs.YtgpohndnkecbeaaDoor
