/- Contracts: journal.sum, strings.Builder's WriteString, journal.first. -/
import Derived.Test.YtgpohndnkecbeaaDoorDg
import Derived.Test.YtgpohndnkecbeaaDoorPc
import Derived.Lib.Strings
namespace Go.Proofs.YtgpohndnkecbeaaDoor
open Go Go.RowKit Go.Proofs.Sc
/-- digest.Of, its four words written out. -/
theorem of_lit (s : ByteArray) (w : World) (hT : Turns w) (hn : s.size ≤ 1000000) :
    Calls Tryd.prog 29 #[.string s] w fun e w' => ∃ d0 d1 d2 d3 : Nat, Hid (dig s.data.toList = [d0, d1, d2, d3]) ∧ e = .returned (.agg #[.int .u32 d0, .int .u32 d1, .int .u32 d2, .int .u32 d3]) ∧ Below w.heap.size w w' := by
  obtain ⟨d0, d1, d2, d3, hd, -⟩ := (dig_w4 s.data.toList).form
  refine (of_any s w hT hn).mono fun e w' ⟨he, hb⟩ => ⟨d0, d1, d2, d3, hd, ?_, hb⟩
  rw [he, hd]; rfl
theorem write_any (B b : Nat) (bs : List Value) (s : ByteArray) (w : World) (h : Lib.IsBuilderF 83 5 B b bs w) (hlen : bs.length + s.size ≤ 140737488355328) (hBw : B ≤ w.heap.size) :
    Calls Tryd.prog 59 #[.pointer (some ⟨b, 0, none⟩), .string s] w fun e w' => e = .returned (.tuple #[.int .i64 s.size, .nilIface]) ∧ (Lib.BuilderAtF 83 5 B b (.pointer (some ⟨b, 0, none⟩)) (bs ++ Lib.strCells s) w' ∧ Below B w w') :=
  Go.Proofs.Any.Builder_WriteString_f { Tryd.lays105 with } Tryd.Builder_Extra_105 B b bs s w h hlen hBw
set_option maxRecDepth 100000 in
set_option maxHeartbeats 400000 in
theorem sum_any (s : ByteArray) (w : World) (hT : Turns w) (hn : s.size ≤ 1000000) :
    Calls Tryd.prog 60 #[.string s] w fun e w' => e = .returned (.string ⟨(sumB s.data.toList).toArray⟩) ∧ Below w.heap.size w w' := by
  have hT0 := hT.lt
  go_enter Tryd.func60, Tryd.ntmps60
  go_wp2_with fail
  refine (of_lit s _ hT hn).mono ?_
  rintro e w1 ⟨d0, d1, d2, d3, hd, rfl, hb1⟩
  go_wp2_with fail
  have hd' := hd.out
  have hw4 := dig_w4 s.data.toList
  rw [hd'] at hw4
  have hbx := Bx.new w1 39 (wds [d0, d1, d2, d3])
  have hrs2 : Rs (w1.alloc (.cells (wds [d0, d1, d2, d3]) 39)) (some ⟨w1.heap.size, 0, none⟩) 4 1 (vw [d0, d1, d2, d3]) := by
    have := Rs.of_bx (n := 4) (size := 1) hbx rfl
    rwa [wds_toList] at this
  clear hd'
  refine (bytes_any _ 4 4 [d0, d1, d2, d3] _ hrs2 (gw_lt hw4.2) (by omega)).mono ?_
  rintro e w2 ⟨rfl, hb2⟩
  have hB2 : Below w.heap.size w w2 := (hb1.alloc hb1.size _).trans (hb2.mono (by have := hb1.size; simp; omega))
  clear hbx hrs2
  go_wp2_with fail
  go_ret
  exact ⟨by rw [sumB, hd.out]; rfl, hB2⟩
/-- What journal.first finds. -/
def FirstIs (s r : ByteArray) (ok : Bool) : Prop := (ok = true → firstP s.data.toList = some r.data.toList) ∧ (ok = false → firstP s.data.toList = none)
set_option maxRecDepth 100000 in
set_option maxHeartbeats 1000000 in
theorem first_any (s : ByteArray) (w : World) (hT : Turns w) (hn : s.size ≤ 900000) :
    Calls Tryd.prog 90 #[.string s] w fun e w' => ∃ r ok, e = .returned (.tuple #[.string r, .bool ok]) ∧ FirstIs s r ok ∧ Below w.heap.size w w' := by
  have hT0 := hT.lt
  by_cases h20 : s.size < 20
  · go_enter Tryd.func90, Tryd.ntmps90
    go_wp2_with fail
    go_ret2
    refine ⟨_, _, rfl, ⟨(fun h => nomatch h), fun _ => ?_⟩, Below.refl _ _⟩
    rw [firstP, if_pos (by rw [size_list]; exact h20)]
  · go_enter Tryd.func90, Tryd.ntmps90
    go_wp2_with fail
    obtain ⟨x, hx⟩ : ∃ x, x = len4 s.data.toList := ⟨_, rfl⟩
    have hx32 : x < 4294967296 := by rw [hx]; exact len4_lt _
    have hbw : bwords (s.extract 0 4).data.toList = [x] := by
      rw [extract_list, List.drop_zero, hx]
      have hl := size_list s
      match s.data.toList, hl with
      | a :: b :: c :: d :: l, _ => rfl
      | [], hl => simp at hl; omega
      | [_], hl => simp at hl; omega
      | [_, _], hl => simp at hl; omega
      | [_, _, _], hl => simp at hl; omega
    have h4s : (s.extract 0 4).size = 4 := by rw [ByteArray.size_extract]; omega
    refine (words_any (s.extract 0 4) _ (by omega) (by omega)).mono ?_
    rw [hbw]
    rintro e w1 ⟨v, rfl, hown, hb1⟩
    have HX := Lib.hid hx
    clear hx hbw h4s
    obtain ⟨A, c, rfl⟩ := own_slice hown
    obtain ⟨g, o, rfl, hc⟩ := (Rs.of_own hown).word (l := [x]) (k := 0) (Nat.one_pos)
    have hc' : w1.cell? ⟨g, o, none⟩ = some (.int .u32 (x : Nat)) := hc
    have hT1 := hT.belowS hb1
    clear hc hown
    have h20i : (20 : Int) ≤ (s.size : Int) := by omega
    by_cases hgt : s.size - 20 < x
    · have hgt' : (s.size : Int) - 20 < (x : Int) := by omega
      go_wp2_with fail
      go_ret2
      refine ⟨_, _, rfl, ⟨(fun h => nomatch h), fun _ => ?_⟩, hb1⟩
      rw [firstP, if_neg (by rw [size_list]; exact h20), if_pos (by rw [size_list, ← HX.out]; exact hgt)]
    · have hgt' : (x : Int) ≤ (s.size : Int) - 20 := by omega
      go_wp2_with fail
      obtain ⟨R, hR⟩ : ∃ R, R = s.extract 20 (20 + x) := ⟨_, rfl⟩
      obtain ⟨H, hH⟩ : ∃ H, H = s.extract 0 4 := ⟨_, rfl⟩
      have sR : R.size ≤ 900000 := by rw [hR, ByteArray.size_extract]; omega
      have sH : H.size ≤ 4 := by rw [hH, ByteArray.size_extract]; omega
      rw [← hR]
      have HR := Lib.hid hR
      have hH' := hH.symm
      have h4i : (4 : Int) ≤ (s.size : Int) := by omega
      clear hR hH hgt hc'
      go_region_with (first | (go_at_call 60; refine (sum_any _ _ ?_ ?_).mono ?_; exact hT1; (rw [ByteArray.size_append]; omega); rintro e w2 ⟨rfl, hb2⟩))
      all_goals
        go_wp2_with fail
        go_ret2
        refine ⟨_, _, rfl, ?_, hb1.drew.trans (hb2.mono hb1.size)⟩
        have hl := size_list s
        have e1 : (s.extract 4 20).toList = (s.data.toList.drop 4).take 16 := by
          rw [Lib.extract_toList]
        have e2 : H.data.toList = s.data.toList.take 4 := by rw [← hH', extract_list, List.drop_zero]
        have e3 : R.data.toList = (s.data.toList.drop 20).take x := by rw [HR.out, Lib.extract_data, Nat.add_sub_cancel_left]
        have e4 := HX.out
        rw [e1, e2, e3]
        refine ⟨fun h => ?_, fun h => ?_⟩
        · rw [firstP, if_neg (by omega), if_neg (by omega), ← e4, if_pos (by simpa using h), e3]
        · rw [firstP, if_neg (by omega), if_neg (by omega), ← e4, if_neg (by simpa using h)]
end Go.Proofs.YtgpohndnkecbeaaDoor
