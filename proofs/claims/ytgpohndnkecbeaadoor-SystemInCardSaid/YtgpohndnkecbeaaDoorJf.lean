/- Contract: law41.awake. -/
import Derived.Test.YtgpohndnkecbeaaDoorJe
import Derived.Test.YtgpohndnkecbeaaDoorJc
import Derived.Test.YtgpohndnkecbeaaDoorPd
import Derived.Deep.OwnRows
namespace Go.Proofs.YtgpohndnkecbeaaDoor
open Go Go.RowKit Go.Proofs.Sc
set_option maxRecDepth 100000 in
set_option maxHeartbeats 2000000 in
theorem awake41_any (w : World) (hT : Turns w) :
    Calls Tryd.prog 20 #[] w fun e w' => e = .returned (.bool true) ∧ Below w.heap.size w w' := by
  have hT0 := hT.lt
  go_enter Tryd.func20, Tryd.ntmps20
  go_wp2_with fail
  have hr0 : Rs (w.alloc (.cells #[.string ⟨#[]⟩, .string ⟨#[97, 98]⟩] 9)) (some ⟨w.heap.size, 0, none⟩) 2 1 (vs [⟨#[]⟩, ⟨#[97, 98]⟩]) := Rs.of_bx (n := 2) (size := 1) (Bx.new w 9 _) rfl
  have hB0 : Below w.heap.size w (w.alloc (.cells #[.string ⟨#[]⟩, .string ⟨#[97, 98]⟩] 9)) := (Below.refl _ _).alloc (Nat.le_refl _) _
  have htot : total ([⟨#[]⟩, ⟨#[97, 98]⟩].map fun r : ByteArray => r.data.toList) = 42 := rfl
  refine (put_any _ 2 2 [⟨#[]⟩, ⟨#[97, 98]⟩] _ (hT.belowS hB0) (by omega) hr0 (by rw [htot]; omega)).mono ?_
  rintro e w1 ⟨rfl, hb1⟩
  have hB1 : Below w.heap.size w w1 := hB0.trans (hb1.mono (by simp))
  obtain ⟨s, hs⟩ : ∃ s : ByteArray, s = ⟨(putB ([⟨#[]⟩, ⟨#[97, 98]⟩].map fun r : ByteArray => r.data.toList)).toArray⟩ := ⟨_, rfl⟩
  have hsl : s.data.toList = putB ([⟨#[]⟩, ⟨#[97, 98]⟩].map fun r : ByteArray => r.data.toList) := by rw [hs]
  have hsz : s.size = 42 := by rw [← size_list, hsl, putB_len, htot]
  rw [← hs]
  clear hs
  have hszi : ((s.size : Int) != 42) = false := by simp; omega
  have hszj : (41 : Int) ≤ (s.size : Int) := by omega
  have hT1 := hT.belowS hB1
  clear hb1 hr0 hB0
  go_wp2_with fail
  refine (read_any s w1 hT1 (by omega)).mono ?_
  rintro e w2 ⟨v, rs, rfl, hrs, hown, hb2⟩
  have hB2 : Below w.heap.size w w2 := hB1.trans (hb2.mono hB1.size)
  obtain ⟨A, c, rfl⟩ := own_slice hown
  have hrs' : rs = [⟨#[]⟩, ⟨#[97, 98]⟩] := by
    apply lsts_inj
    have := reads_all ([⟨#[]⟩, ⟨#[97, 98]⟩].map fun r : ByteArray => r.data.toList) 1000 (by simp) (by intro r hr; simp at hr; rcases hr with rfl | rfl <;> simp)
    rw [← this, ← hsl, ← hrs]; rfl
  subst hrs'
  have hrA := Rs.of_own hown
  have ht2 : total (lsts [⟨#[]⟩, ⟨#[97, 98]⟩]) = 42 := rfl
  rw [ht2]
  have hT2 := hT.belowS hB2
  clear hown hrs hb2 hT1
  go_wp2_with fail
  have hcut : (s.extract 0 41).data.toList = (putB ([⟨#[]⟩, ⟨#[97, 98]⟩].map fun r : ByteArray => r.data.toList)).take 41 := by rw [extract_list, List.drop_zero, hsl]
  have hcs : (s.extract 0 41).size = 41 := by rw [ByteArray.size_extract]; omega
  obtain ⟨s', hs'⟩ : ∃ s', s' = s.extract 0 41 := ⟨_, rfl⟩
  rw [← hs'] at hcut hcs ⊢
  clear hs'
  refine (read_any s' w2 hT2 (by omega)).mono ?_
  rintro e w3 ⟨v, rs, rfl, hrs, hown, hb3⟩
  have hB3 : Below w.heap.size w w3 := hB2.trans (hb3.mono hB2.size)
  obtain ⟨A2, c2, rfl⟩ := own_slice hown
  have hrs' : rs = [⟨#[]⟩] := by
    apply lsts_inj
    have := reads_cut ([⟨#[]⟩, ⟨#[97, 98]⟩].map fun r : ByteArray => r.data.toList) 41 1 1000 (by simp) (by simp) (by intro r hr; simp at hr; rcases hr with rfl | rfl <;> simp) (by decide) (by intro _; decide)
    rw [← hcut, ← hrs] at this
    exact this
  subst hrs'
  have hrB := Rs.of_own hown
  have hrA := hrA.below hb3
  have ht3 : total (lsts [⟨#[]⟩]) = 20 := rfl
  rw [ht3]
  have hT3 := hT.belowS hB3
  clear hown hrs hb3 hT2
  obtain ⟨w4, hmk, hb4⟩ : ∃ w4, (Instr.makeSlice 22 (.int .i64 1001) (.int .i64 1001)).run Tryd.prog w3 = .ok (.slice (some ⟨w3.heap.size, 0, none⟩) 1001 1001) w4 ∧ Below w3.heap.size w3 w4 :=
    ⟨_, run_make_row' 22 9 (.string ⟨#[]⟩) 16 Tryd.underlying22 infoStr rfl .i64 .i64 1001 (by decide) (by decide) w3, (Below.refl _ _).alloc (Nat.le_refl _) _⟩
  have hB4 : Below w.heap.size w w4 := hB3.trans (hb4.mono hB3.size)
  have hrB := hrB.below hb4
  have hrA := hrA.below hb4
  go_wp2_with fail
  refine (put_many _ 1001 1001 w4 (by omega) (by omega)).mono ?_
  rintro e w5 ⟨rfl, rfl⟩
  go_wp2_with fail
  have hb5 : Below w4.heap.size w4 (w4.alloc (.cells #[.string ⟨#[]⟩, .string ⟨#[97, 98]⟩] 9)) := (Below.refl _ _).alloc (Nat.le_refl _) _
  refine (list_any _ _ 2 _ 2 2 [⟨#[]⟩, ⟨#[97, 98]⟩] [⟨#[]⟩, ⟨#[97, 98]⟩] _ (hrA.below hb5) (Rs.of_bx (n := 2) (size := 1) (Bx.new w4 9 _) rfl) (by omega)).mono ?_
  rintro e w6 ⟨rfl, hb6⟩
  have hb46 : Below w4.heap.size w4 w6 := hb5.trans (hb6.mono (by simp))
  have hrB := hrB.below hb46
  have hB6 := hB4.trans (hb46.mono hB4.size)
  rw [decide_eq_true rfl]
  go_wp2_with fail
  have hb7 : Below w6.heap.size w6 (w6.alloc (.cells #[.string ⟨#[]⟩] 9)) := (Below.refl _ _).alloc (Nat.le_refl _) _
  refine (list_any _ _ 1 _ 1 1 [⟨#[]⟩] [⟨#[]⟩] _ (hrB.below hb7) (Rs.of_bx (n := 1) (size := 1) (Bx.new w6 9 _) rfl) (by omega)).mono ?_
  rintro e w8 ⟨rfl, hb8⟩
  have hb68 : Below w6.heap.size w6 w8 := hb7.trans (hb8.mono (by simp))
  rw [decide_eq_true rfl]
  go_wp2_with fail
  go_ret
  exact ⟨rfl, hB6.trans (hb68.mono hB6.size)⟩
end Go.Proofs.YtgpohndnkecbeaaDoor
