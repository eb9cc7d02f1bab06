/- Contracts: ref41.Sum, ref41.Put. -/
import Derived.Test.YtgpohndnkecbeaaDoorRf
import Derived.Test.YtgpohndnkecbeaaDoorRa
import Derived.Test.YtgpohndnkecbeaaDoorJd
import Derived.Test.YtgpohndnkecbeaaDoorMe
namespace Go.Proofs.YtgpohndnkecbeaaDoor
open Go Go.RowKit Go.Proofs.Sc
/-- ref03.Of, its four words written out. -/
theorem rof_lit (s : ByteArray) (w : World) (hn : s.size ≤ 1000000) :
    Calls Tryd.prog 54 #[.string s] w fun e w' => ∃ d0 d1 d2 d3 : Nat, Hid (dig s.data.toList = [d0, d1, d2, d3]) ∧ e = .returned (.agg #[.int .u32 d0, .int .u32 d1, .int .u32 d2, .int .u32 d3]) ∧ Below w.heap.size w w' := by
  obtain ⟨d0, d1, d2, d3, hd, -⟩ := (dig_w4 s.data.toList).form
  refine (rof_any s w hn).mono fun e w' ⟨he, hb⟩ => ⟨d0, d1, d2, d3, hd, ?_, hb⟩
  rw [he, hd]; rfl
set_option maxRecDepth 100000 in
set_option maxHeartbeats 2000000 in
theorem rsum_any (s : ByteArray) (w : World) (hn : s.size ≤ 900000) :
    Calls Tryd.prog 62 #[.string s] w fun e w' => ∃ r : ByteArray, e = .returned (.string r) ∧ r.data.toList = sumB (framed s.data.toList) ∧ Below w.heap.size w w' := by
  go_enter Tryd.func62, Tryd.ntmps62
  go_wp2_with fail
  refine (framed_any s _ (by omega)).mono ?_
  rintro e w1 ⟨r, rfl, hr, hb1⟩
  have hrs : r.size ≤ 1000000 := by rw [← size_list, hr, framed, List.length_append, le4_len, size_list]; omega
  have HR := Lib.hid hr
  clear hr
  go_wp2_with fail
  refine (rof_lit r _ hrs).mono ?_
  rintro e w2 ⟨d0, d1, d2, d3, hd, rfl, hb2⟩
  have hB2 : Below w.heap.size w w2 := hb1.trans (hb2.mono hb1.size)
  have hd' := hd.out
  have hw4 := dig_w4 r.data.toList
  rw [hd'] at hw4
  have hB2a := hB2.alloc hB2.size (.cells (wds [d0, d1, d2, d3]) 39)
  obtain ⟨w3, hw3⟩ : ∃ w3, w3 = w2.alloc (.cells (wds [d0, d1, d2, d3]) 39) := ⟨_, rfl⟩
  have hsz3 : w3.heap.size = w2.heap.size + 1 := by rw [hw3, World.size_alloc]
  have hbx := Bx.new w3 37 (wds [d0, d1, d2, d3])
  have hrs2 : Rs (w3.alloc (.cells (wds [d0, d1, d2, d3]) 37)) (some ⟨w3.heap.size, 0, none⟩) 4 1 (vw [d0, d1, d2, d3]) := by
    have := Rs.of_bx (n := 4) (size := 1) hbx rfl
    rwa [wds_toList] at this
  rw [← hw3] at hB2a
  have hB3a := hB2a.alloc hB2a.size (.cells (wds [d0, d1, d2, d3]) 37)
  rw [hw3] at hrs2 hB3a
  rw [World.size_alloc] at hrs2
  clear hd' hbx hw3 hsz3 hB2a w3
  go_wp2_with fail
  refine (rbytes_any _ 4 4 [d0, d1, d2, d3] _ hrs2 (gw_lt hw4.2) (by omega)).mono ?_
  rintro e w3 ⟨rfl, hb3⟩
  have hB3 : Below w.heap.size w w3 := hB3a.trans (hb3.mono hB3a.size)
  go_wp2_with fail
  go_ret
  exact ⟨_, rfl, by rw [mk_list, sumB, ← HR.out, hd.out], hB3⟩
def RPutRel (w : World) (n : Nat) (l : List (List UInt8)) (v i : Value) (wr : World) : Prop :=
  ∃ k : Nat, k ≤ n ∧ i = .int .i64 k ∧ wr.ownsRow w.heap.size 5 1 v (putB (l.take k)).length (Lib.byteCells (putB (l.take k))) ∧ Below w.heap.size w wr
set_option maxRecDepth 100000 in
set_option maxHeartbeats 1000000 in
theorem rput_any (A : Option Addr) (n c : Nat) (l : List ByteArray) (w : World) (hn : n ≤ 1000) (hr : Rs w A n 1 (vs l)) (hl : total (l.map fun r => r.data.toList) ≤ 800000) :
    Calls Tryd.prog 23 #[.slice A n c] w fun e w' => e = .returned (.tuple #[.string ⟨(putB (l.map fun r => r.data.toList)).toArray⟩, .int .i64 0]) ∧ Below w.heap.size w w' := by
  have hll := hr.slen
  have h1 : ¬ (1000 : Int) < (n : Int) := by omega
  go_enter Tryd.func23, Tryd.ntmps23
  go_wp2_with fail
  go_loopw [4, 5] (fun v i wr => RPutRel w n (l.map fun r => r.data.toList) v i wr) (fun _ i _ => n - (intOf i).toNat)
  case atStart => exact ⟨0, by omega, rfl, World.ownsRow_nil _ _ _ _, Below.refl _ _⟩
  case round =>
    obtain ⟨k, hk, rfl, hown, hB⟩ := hrel
    obtain ⟨w2, rfl⟩ : ∃ w2 : World, w2 = wr := ⟨_, rfl⟩
    by_cases hlt : k < n
    · obtain ⟨g, o, rfl, hc0⟩ := hr.str hlt
      have hglt : g < w.heap.size := World.block_lt_of_cell? w _ hc0
      have hc := (hB.cell (p := ⟨g, o + k, none⟩) hglt).trans hc0
      clear hc0
      have htg := total_get l k (by omega)
      have hput := putB_take l k (by omega)
      have hpl := putB_len ((l.map fun r => r.data.toList).take k)
      obtain ⟨R, hR⟩ : ∃ R, R = gs l k := ⟨_, rfl⟩
      rw [← hR] at hc htg hput
      clear hR hr hll
      have hRs : R.size ≤ 800000 := by omega
      have hlb : total (List.take k (List.map (fun r => r.data.toList) l)) + R.size + 20 ≤ 800000 := by omega
      clear hl htg
      obtain ⟨T, hTk⟩ : ∃ T, T = List.take k (List.map (fun r => r.data.toList) l) := ⟨_, rfl⟩
      rw [← hTk] at hown hput hpl hlb
      have HP := Lib.hid hput
      clear hput hTk
      go_wp2_with fail
      refine (framed_any R _ (by omega)).mono ?_
      rintro e w3 ⟨F, rfl, hF, hb3⟩
      have hFs : F.size = 4 + R.size := by rw [← size_list, hF, framed, List.length_append, le4_len, size_list]
      have hc3 := (hb3.cell (World.block_lt_of_cell? _ _ hc)).trans hc
      have hown3 := own_below hown hb3
      have hFs4 : 4 ≤ F.size := by omega
      have HF := Lib.hid hF
      clear hF hc hown hFs
      obtain ⟨H, hH⟩ : ∃ H, H = F.extract 0 4 := ⟨_, rfl⟩
      have hHl : H.data.toList = le4 (R.data.toList.length % 4294967296) := by rw [hH, extract_list, List.drop_zero, HF.out, framed, List.take_left' (le4_len _)]
      have hHs : H.size = 4 := by rw [← size_list, hHl, le4_len]
      have hH' := hH.symm
      obtain ⟨cap1, w4, hcv1, hrs1, hb4⟩ := conv_rs w3 H
      rw [hHs] at hcv1 hrs1
      have HHL := Lib.hid hHl
      have HHS := Lib.hid hHs
      have hB4 : Below w.heap.size w w4 := (hB.trans (hb3.mono hB.size)).trans (hb4.mono (by have := (hB.trans (hb3.mono hB.size)).size; omega))
      have hown4 := own_below hown3 hb4
      have hc4 := (hb4.cell (World.block_lt_of_cell? _ _ hc3)).trans hc3
      clear hH hHl hHs hown3 hc3 hb3 hb4
      rw [hpl] at hown4
      have hsb1 : w.heap.size ≤ w4.heap.size := hB4.size
      go_wp2_with (first | (at_builtin; refine ap_rs 51 5 _ 1 1 Tryd.underlying51 infoByte rfl (by decide) (by decide) rfl _ _ rfl w.heap.size u4 (total T) _ rfl hown4 _ 4 cap1 _ rfl hrs1 (byteCells_one _) (by omega) hsb1 ?_; intro v5 w5 hown5 hg5 hat5; have hb45 := (Below.refl w.heap.size w4).grown hg5 hsb1 (own_base hown4); have hc5 := (Below.cell hb45 (p := ⟨g, o + k, none⟩) hglt).trans hc4))
      have hB5 := hB4.trans hb45
      have hsb5 := hB5.size
      clear hown4 hc4 hcv1 hg5 hat5 hb45 hrs1 hsb1
      refine (rsum_any R w5 (by omega)).mono ?_
      rintro e w6 ⟨M, rfl, hM, hb6⟩
      have hMs : M.size = 16 := by rw [← size_list, hM, sumB_len]
      have hown6 := own_below hown5 hb6
      have hc6 := (hb6.cell (World.block_lt_of_cell? _ _ hc5)).trans hc5
      have hB6 := hB5.trans (hb6.mono hB5.size)
      obtain ⟨cap2, w7, hcv2, hrs2, hb7⟩ := conv_rs w6 M
      rw [hMs] at hcv2 hrs2
      have HM := Lib.hid hM
      have HMS := Lib.hid hMs
      have hB7 := hB6.trans (hb7.mono hB6.size)
      have hown7 := own_below hown6 hb7
      have hc7 := (hb7.cell (World.block_lt_of_cell? _ _ hc6)).trans hc6
      have hsb7 : w.heap.size ≤ w7.heap.size := hB7.size
      clear hM hMs hown5 hown6 hc5 hc6 hb6 hb7 hsb5 hB5 hB4
      go_wp2_with (first | (at_builtin; refine ap_rs 51 5 _ 1 1 Tryd.underlying51 infoByte rfl (by decide) (by decide) rfl _ _ rfl w.heap.size v5 (total T + 4) _ rfl hown7 _ 16 cap2 _ rfl hrs2 (byteCells_one _) (by omega) hsb7 ?_; intro v8 w8 hown8 hg8 hat8; have hb78 := (Below.refl w.heap.size w7).grown hg8 hsb7 (own_base hown7); have hc8 := (Below.cell hb78 (p := ⟨g, o + k, none⟩) hglt).trans hc7))
      have hB8 := hB7.trans hb78
      obtain ⟨cap3, w9, hcv3, hrs3, hb9⟩ := conv_rs w8 R
      have hB9 := hB8.trans (hb9.mono hB8.size)
      have hown9 := own_below hown8 hb9
      have hsb9 : w.heap.size ≤ w9.heap.size := hB9.size
      clear hown7 hc7 hcv2 hg8 hat8 hb78 hrs2 hsb7 hown8 hc8 hb9 hB7 hB6
      rw [hcv3]
      go_wp2_with (first | (at_builtin; refine ap_rs 51 5 _ 1 1 Tryd.underlying51 infoByte rfl (by decide) (by decide) rfl _ _ rfl w.heap.size v8 (total T + 4 + 16) _ rfl hown9 _ R.size cap3 _ rfl hrs3 (byteCells_one _) (by omega) hsb9 ?_; intro v10 w10 hown10 hg10 hat10))
      have hB10 := hB9.trans ((Below.refl w.heap.size w9).grown hg10 hsb9 (own_base hown9))
      refine ⟨⟨k + 1, by omega, by go_num, ?_, hB10⟩, by simp [intOf]; omega⟩
      rw [HP.out, List.length_append, hpl, recB_len, size_list]
      have e1 : Lib.byteCells (putB T) ++ Lib.byteCells H.data.toList ++ Lib.byteCells M.data.toList ++ Lib.byteCells R.data.toList = Lib.byteCells (putB T ++ recB R.data.toList) := by
        rw [HHL.out, HM.out, recB]
        simp [Lib.byteCells]
      rw [e1] at hown10
      have e2 : total T + 4 + 16 + R.size = total T + (20 + R.size) := by omega
      rw [e2] at hown10
      exact hown10
    · obtain rfl : k = n := by omega
      rw [List.take_of_length_le (by simp; omega)] at hown
      have hcv := conv_own (P := Tryd.prog) Tryd.underlying51 Tryd.underlying5 Tryd.underlying9 hown
      go_wp2_with fail
      go_ret2
      exact ⟨rfl, hB⟩
end Go.Proofs.YtgpohndnkecbeaaDoor
