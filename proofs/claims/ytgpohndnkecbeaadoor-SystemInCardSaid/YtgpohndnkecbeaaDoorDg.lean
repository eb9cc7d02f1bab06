/- Contract: digest.Of. -/
import Derived.Test.YtgpohndnkecbeaaDoorDe
import Derived.Test.YtgpohndnkecbeaaDoorDf
import Derived.Test.YtgpohndnkecbeaaDoorSh
namespace Go.Proofs.YtgpohndnkecbeaaDoor
open Go Go.RowKit Go.Proofs.Sc
theorem repeat_one (b : UInt8) (z : Nat) : Lib.repeatL [b] z = List.replicate z b := by
  induction z with
  | zero => rfl
  | succ z ih => simp [Lib.repeatL, ih, List.replicate_succ]
/-- take, its four words written out. -/
theorem take_lit (f : Nat) (A : Option Addr) (n c : Nat) (xs : List Nat) (w : World) (hT : Turns w) (hf : f < 4294967296) (h : Rs w A n 1 (vw xs)) (hx : ∀ x ∈ xs, x < 4294967296) (h4 : n % 4 = 0) (hc : n ≤ c) (hc2 : c ≤ 9223372036854775807) :
    Calls Tryd.prog 66 #[.int .u32 f, .slice A n c] w fun e w' => ∃ d0 d1 d2 d3 : Nat, Hid (takeW f xs = [d0, d1, d2, d3]) ∧ e = .returned (.agg #[.int .u32 d0, .int .u32 d1, .int .u32 d2, .int .u32 d3]) ∧ Below w.heap.size w w' := by
  obtain ⟨d0, d1, d2, d3, hd, -⟩ := (takeW_w4 f xs hf hx).form
  refine (take_any f A n c xs w hT hf h hx h4 hc hc2).mono fun e w' ⟨he, hb⟩ => ⟨d0, d1, d2, d3, hd, ?_, hb⟩
  rw [he, hd]; rfl
set_option maxRecDepth 100000 in
set_option maxHeartbeats 1000000 in
theorem of_any (s : ByteArray) (w : World) (hT : Turns w) (hn : s.size ≤ 1000000) :
    Calls Tryd.prog 29 #[.string s] w fun e w' => e = .returned (.agg (wds (dig s.data.toList))) ∧ Below w.heap.size w w' := by
  have hT0 := hT.lt
  obtain ⟨z, hz⟩ : ∃ z : Nat, z = (24 - (s.size + 1) % 16) % 16 := ⟨_, rfl⟩
  have ez : (24 - ((s.size : Int) + 1) % 16) % 16 = (z : Int) := by omega
  have hz2 : z ≤ 16 := by omega
  have HZ := Lib.hid hz
  clear hz
  go_enter Tryd.func29, Tryd.ntmps29
  go_wp2_with fail
  have HE := Lib.hid ez
  clear ez
  refine (Tryd.strings_Repeat ⟨#[0]⟩ z _ (by omega) (by show 1 * z ≤ _; omega)).mono ?_
  obtain ⟨r, hr⟩ : ∃ r : ByteArray, r = ⟨(Lib.repeatL (⟨#[0]⟩ : ByteArray).data.toList z).toArray⟩ := ⟨_, rfl⟩
  rw [← hr]
  have hrl : r.data.toList = List.replicate z 0 := by rw [hr, mk_list]; exact repeat_one 0 z
  have hrs : r.size ≤ 16 := by rw [← size_list, hrl, List.length_replicate]; exact hz2
  have HR := Lib.hid hrl
  clear hr hrl
  rintro e w1 ⟨rfl, hb1⟩
  have hB1 : Below w.heap.size w w1 := ((Below.refl _ _).alloc (Nat.le_refl _) _).trans (hb1.mono (by simp))
  have hx0 : Bx w1 w.heap.size 39 (wds [0, 0, 0, 0]) := (Bx.new w 39 _).belowS hb1
  have hsz1 : w.heap.size < w1.heap.size := hx0.lt
  clear hb1
  have l1 : IntKind.u32.wrap (s.size : Int) = s.size := by rw [IntKind.wrap_u32]; omega
  have hsz2 : (s ++ ⟨#[128]⟩ : ByteArray).size ≤ 1000001 := by rw [ByteArray.size_append]; show s.size + 1 ≤ _; omega
  obtain ⟨n1, hn1⟩ : ∃ n1 : Nat, n1 = s.size / 4294967296 := ⟨_, rfl⟩
  have l2 : (s.size : Int) / 4294967296 = (n1 : Int) := by omega
  have hn2 : n1 = 0 := by omega
  have HN := Lib.hid hn1
  have HN2 := Lib.hid hn2
  clear hn1 hn2
  go_wp2_with fail
  have hbx := Bx.new w1 37 (wds [s.size, n1])
  have hrs2 : Rs (w1.alloc (.cells (wds [s.size, n1]) 37)) (some ⟨w1.heap.size, 0, none⟩) 2 1 (vw [s.size, n1]) := by
    have := Rs.of_bx (n := 2) (size := 1) hbx rfl
    rwa [wds_toList] at this
  refine (bytes_any _ 2 2 [s.size, n1] _ hrs2 (fun i => gw_lt (fun x hx => ?_) i) (by omega)).mono ?_
  · simp only [List.mem_cons, List.not_mem_nil, or_false] at hx
    have := HN2.out
    rcases hx with rfl | rfl <;> omega
  obtain ⟨q, hq⟩ : ∃ q : ByteArray, q = ⟨(wbytes [s.size, n1]).toArray⟩ := ⟨_, rfl⟩
  rw [← hq]
  have hql : q.data.toList = wbytes [s.size, n1] := by rw [hq, mk_list]
  have hqs : q.size ≤ 8 := by rw [← size_list, hql, wbytes_len]; simp
  have hqs2 : q.size = 8 := by rw [← size_list, hql, wbytes_len]; simp
  have HQ := Lib.hid hql
  have HQ2 := Lib.hid hqs2
  clear hq hql hqs2
  rintro e w2 ⟨rfl, hb2⟩
  have hB2 : Below w.heap.size w w2 := (hB1.alloc hB1.size _).trans (hb2.mono (by have := hB1.size; simp; omega))
  have hx2 : Bx w2 w.heap.size 39 (wds [0, 0, 0, 0]) := (hx0.alloc _).belowS hb2
  clear hbx hrs2 hb2 l1 l2 hx0
  have hsz3 : ((s ++ ⟨#[128]⟩ : ByteArray) ++ r).size ≤ 1000020 := by rw [ByteArray.size_append]; omega
  go_wp2_with fail
  obtain ⟨T, hTd⟩ : ∃ T : ByteArray, T = s ++ ⟨#[128]⟩ ++ r ++ q := ⟨_, rfl⟩
  rw [← hTd]
  have hTl : T.data.toList = padB s.data.toList ++ wbytes (lenW s.data.toList) := by
    rw [hTd, append_list, append_list, append_list, HR.out, HQ.out, HZ.out, padB, lenW, size_list]
    have e1 : [s.size, n1] = [s.size % 4294967296, s.size / 4294967296 % 4294967296] := by rw [HN.out]; congr 2 <;> omega
    rw [e1]
  have hTs : T.size = (padB s.data.toList).length + 8 := by rw [← size_list, hTl, List.length_append, wbytes_len]; rfl
  have hp := padB_len s.data.toList
  have hTs2 : T.size ≤ 1000100 := by rw [hTd, ByteArray.size_append]; omega
  have hbw : bwords T.data.toList = bwords (padB s.data.toList) ++ lenW s.data.toList := by
    rw [hTl, bwords_app _ _ (by omega)]
    have := bwords_wbytes (lenW s.data.toList) (fun x hx => by
      simp only [lenW, List.mem_cons, List.not_mem_nil, or_false] at hx
      rcases hx with rfl | rfl <;> exact m32_lt _) []
    rw [List.append_nil] at this
    rw [this]; simp [bwords]
  have hT4 : T.size % 4 = 0 := by omega
  have hT16 : T.size % 16 = 0 := by omega
  have HB := Lib.hid hbw
  have hwl := bwords_len T.data.toList
  rw [size_list] at hwl
  have hlt := bwords_lt T.data.toList
  have HL := Lib.hid hlt
  have HTW : Hid (Turns w2) := hT.below hB2 hT0
  clear hTd hTl hTs hbw hlt hsz3 hsz2
  obtain ⟨n2, hn2⟩ : ∃ n2, n2 = (bwords T.data.toList).length := ⟨_, rfl⟩
  rw [← hn2] at hwl
  refine (words_any T _ hT4 (by omega)).mono ?_
  rintro e w3 ⟨v, rfl, hown, hb3⟩
  have hB3 : Below w.heap.size w w3 := hB2.trans (hb3.mono hB2.size)
  have hx3 : Bx w3 w.heap.size 39 (wds [0, 0, 0, 0]) := hx2.belowS hb3
  have hsz4 : w.heap.size < w3.heap.size := hx3.lt
  obtain ⟨A, c, rfl, hc1, hc2⟩ := own_slice_cap hown
  have hr3 := Rs.of_own hown
  rw [← hn2] at hr3 hc1
  have HN3 := Lib.hid hn2
  have HR3 := Lib.hid hr3
  rw [← hn2]
  clear hn2 hr3 hown hb3 hx2 HN2
  have h24 : n2 % 4 = 0 := by omega
  clear hwl hT16 hT4
  go_wp2_with fail
  refine (take_lit 1 A n2 c (bwords T.data.toList) _ (hT.below hB3 hT0) (by decide) HR3.out HL.out h24 hc1 hc2).mono ?_
  rintro e w4 ⟨d0, d1, d2, d3, HD, rfl, hb4⟩
  have hB4 : Below w.heap.size w w4 := hB3.trans (hb4.mono hB3.size)
  have hx4 : Bx w4 w.heap.size 39 (wds [0, 0, 0, 0]) := hx3.belowS hb4
  obtain ⟨k0, k1, k2, k3⟩ := hx4.w4c
  obtain ⟨f0, f1, f2, f3⟩ := hx4.w4f
  go_wp2_with fail
  have hfin := hx4.set4 d0 d1 d2 d3
  refine bodyPost_ret (v := .agg (wds [d0, d1, d2, d3])) (results_cell_row rfl _ _ w.heap.size 39 _ (0, 0) _ rfl hfin Tryd.underlying39 rfl (by kernel_rfl)) rfl ⟨?_, ?_⟩
  · rw [dig, ← HB.out, HD.out]
  · exact below_set4 hB4 (Nat.le_refl _) _ _ _ _
end Go.Proofs.YtgpohndnkecbeaaDoor
