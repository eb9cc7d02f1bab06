/- The law JournalSpoilt, walked. -/
import Derived.Test.YtgpohndnkecbeaaDoorKb
import Derived.Test.YtgpohndnkecbeaaDoorPf
import Derived.Test.YtgpohndnkecbeaaDoorRa
import Derived.Test.YtgpohndnkecbeaaDoorMe
import Derived.StillTailTactics
namespace Go.Proofs.YtgpohndnkecbeaaDoor
open Go Go.RowKit Go.Proofs.Sc
set_option maxRecDepth 100000 in
set_option maxHeartbeats 1000000 in
theorem spoilt_any (A : Option Addr) (n c : Nat) (l : List ByteArray) (cut by_ : Int) (w : World) (hT : Turns w) (hnc : n ≤ c) (hA : A = none → c = 0) (hn : n ≤ 8796093022208) (hr : Rs w A n 1 (vs l)) (hs : ∀ s ∈ l, s.size ≤ 140737488355328) (hy0 : 0 ≤ by_) (hy1 : by_ < 256) :
    Calls Tryd.prog 7 #[.slice A n c, .int .i64 cut, .int .u8 by_] w fun e w' => e = .returned (.bool true) ∧ Below w.heap.size w w' := by
  go_enter Tryd.func7, Tryd.ntmps7
  go_wp2_with fail
  refine (awake41_any _ hT).mono ?_
  rintro e w1 ⟨rfl, hB1⟩
  have hT1 := hT.belowS hB1
  have hr1 := hr.below hB1
  by_cases hbig : (1000 : Int) < (n : Int)
  · go_wp2_with fail
    go_ret
    exact ⟨rfl, hB1⟩
  · have hn' : n ≤ 1000 := by omega
    go_wp2_with fail
    refine (total_any A n c 3000 l w1 hr1 (by omega) (by omega) (fun s h => Nat.le_trans (hs s h) (by omega))).mono ?_
    rintro e w2 ⟨⟨t, rfl, ht1, ht2⟩, rfl⟩
    by_cases htb : (3000 : Int) < (t : Int)
    · go_wp2_with fail
      go_ret
      exact ⟨rfl, hB1⟩
    · have htot : total (l.map fun r => r.data.toList) = t := ht1 (by omega)
      have ht : t ≤ 3000 := by omega
      clear ht1 ht2
      by_cases hb0 : by_ = 0
      · have hb0' : (by_ == 0) = true := by simp [hb0]
        subst hb0
        go_wp2_with fail
        go_ret
        exact ⟨rfl, hB1⟩
      have hb0' : (by_ == 0) = false := by simp [hb0]
      go_wp2_with fail
      refine (put_any A n c l w1 hT1 hn' hr1 (by omega)).mono ?_
      rintro e w2 ⟨rfl, hb2⟩
      obtain ⟨p, hp⟩ : ∃ p : ByteArray, p = ⟨(putB (l.map fun r => r.data.toList)).toArray⟩ := ⟨_, rfl⟩
      have hpl : p.data.toList = putB (l.map fun r => r.data.toList) := by rw [hp]
      have hps : t = p.size := by rw [← size_list, hpl, putB_len, htot]
      rw [← hp]
      subst hps
      have hB2 : Below w.heap.size w w2 := hB1.trans (hb2.mono hB1.size)
      have hT2 := hT1.belowS hb2
      have hr2 := hr1.below hb2
      clear hp hb2 hr1 hr hT1
      by_cases hneg : cut < 0
      · go_wp2_with fail
        go_ret
        exact ⟨rfl, hB2⟩
      · obtain ⟨q, rfl⟩ : ∃ q : Nat, cut = (q : Int) := ⟨cut.toNat, by omega⟩
        by_cases hgt : (p.size : Int) ≤ (q : Int)
        · go_wp2_with fail
          go_ret
          exact ⟨rfl, hB2⟩
        · have hq : q < p.size := by omega
          have hq2 : (q : Int) < (p.size : Int) := by omega
          have hd : decide (p.size ≤ q) = false := by simp; omega
          obtain ⟨cap, w3, hcv, hcel, hfro, hb3⟩ := conv_str w2 p
          have c0 := hcel q hq
          have f0 := hfro q hq
          have hpx : p.data.toList[q]? = some p[q] := get_list p q hq
          obtain ⟨x, hx⟩ : ∃ x, x = p[q] := ⟨_, rfl⟩
          rw [← hx] at c0 hpx
          clear hx
          have hx256 := x.toNat_lt
          obtain ⟨b, rfl⟩ : ∃ b : Nat, by_ = (b : Int) := ⟨by_.toNat, by omega⟩
          obtain ⟨v, hv⟩ : ∃ v, v = UInt8.ofNat (x.toNat ^^^ b) := ⟨_, rfl⟩
          have hxb : x.toNat ^^^ b < 256 := Nat.xor_lt_two_pow (n := 8) hx256 (by omega)
          have hvn : v.toNat = x.toNat ^^^ b := by rw [hv, UInt8.toNat_ofNat']; omega
          have hvx : v ≠ x := by
            intro e
            have e2 : x.toNat ^^^ b = x.toNat := by rw [← hvn, e]
            have e3 : x.toNat ^^^ (x.toNat ^^^ b) = x.toNat ^^^ x.toNat := by rw [e2]
            rw [← Nat.xor_assoc, Nat.xor_self, Nat.zero_xor] at e3
            omega
          have hxo : bits .xor .u8 (x.toNat : Int) (b : Int) = (v.toNat : Int) := by rw [hvn]; exact u8_xor_nat _ _ hx256 (by omega)
          clear hv hvn hxb
          obtain ⟨S, hS⟩ : ∃ S, S = p.data.toList.set q v := ⟨_, rfl⟩
          have hSl : S.length = p.size := by rw [hS, List.length_set, size_list]
          have hback : (convert 51 9 (.slice (some ⟨w2.heap.size, 0, none⟩) p.size cap)).run Tryd.prog (w3.setCell ⟨w2.heap.size, q, none⟩ (.int .u8 (v.toNat : Int))) = .ok (.string ⟨S.toArray⟩) (w3.setCell ⟨w2.heap.size, q, none⟩ (.int .u8 (v.toNat : Int))) := by
            have := run_convert_bytes_back (P := Tryd.prog) (w3.setCell ⟨w2.heap.size, q, none⟩ (.int .u8 (v.toNat : Int))) 51 9 5 ⟨w2.heap.size, 0, none⟩ cap S Tryd.underlying51 Tryd.underlying5 Tryd.underlying9 (fun j hj => by
              rw [add_at, Nat.zero_add]
              by_cases hjq : q = j
              · subst hjq
                have : S[q] = v := by simp [hS]
                rw [this]
                exact World.cell?_setCell_same _ _ _ c0
              · have : S[j] = p[j]'(by omega) := by
                  simp [hS, List.getElem_set, hjq]
                  rfl
                rw [this, World.cell?_setCell_other _ _ _ _ (by simp [hjq])]
                exact hcel j (by omega))
            rw [hSl] at this
            exact this
          have hB3 : Below w.heap.size w (w3.setCell ⟨w2.heap.size, q, none⟩ (.int .u8 (v.toNat : Int))) := (hB2.trans (hb3.mono hB2.size)).setCell hB2.size _
          have hb3' : Below w2.heap.size w2 (w3.setCell ⟨w2.heap.size, q, none⟩ (.int .u8 (v.toNat : Int))) := hb3.setCell (Nat.le_refl _) _
          have hT3 := hT2.belowS hb3'
          have hr3 := hr2.below hb3'
          clear hcel hfro
          go_wp2_with fail
          obtain ⟨w4, hw4⟩ : ∃ w4, w4 = w3.setCell ⟨w2.heap.size, q, none⟩ (.int .u8 (v.toNat : Int)) := ⟨_, rfl⟩
          rw [← hw4] at hback hB3 hb3' hT3 hr3 ⊢
          clear hw4 hcv f0 c0 hb3 hxo
          go_loopw [10, 11] (fun t i wr => CutRel w4 n (l.map fun r => r.data.toList) q t i wr) (fun _ i _ => n - (intOf i).toNat)
          case atStart => exact ⟨0, by omega, rfl, rfl, by simp [total], rfl⟩
          case round =>
            obtain ⟨k, hk, rfl, rfl, htk, rfl⟩ := hrel
            obtain ⟨y, hy⟩ : ∃ y, y = total ((l.map fun r => r.data.toList).take k) := ⟨_, rfl⟩
            rw [← hy] at htk ⊢
            have hlt : k < n := by
              rcases Nat.lt_or_ge k n with h | h
              · exact h
              · have h1 : (l.map fun r => r.data.toList).take k = l.map fun r => r.data.toList := List.take_of_length_le (by have := hr3.slen; simp; omega)
                rw [h1] at hy
                omega
            obtain ⟨g, o, rfl, hc⟩ := hr3.str hlt
            have hll := hr3.slen
            have hsucc := total_succ l k (by omega)
            have hkl : k < l.length := by omega
            have hsz : (gs l k).size ≤ 3000 := by
              have h1 := total_get l k hkl
              omega
            have hlm : (l.map fun r => r.data.toList)[k]'(by simpa using hkl) = (gs l k).data.toList := by simp [gs, hkl]
            obtain ⟨R, hR⟩ : ∃ R, R = gs l k := ⟨_, rfl⟩
            rw [← hR] at hc hsz hsucc hlm
            clear hR
            by_cases hle : total ((l.map fun r => r.data.toList).take (k + 1)) ≤ q
            · have hle' : (y : Int) + 20 + (R.size : Int) ≤ (q : Int) := by omega
              have hle2 : decide ((y : Int) + 20 + (R.size : Int) ≤ (q : Int)) = true := by simp; omega
              go_wp2_with fail
              refine ⟨⟨k + 1, by omega, by go_num, ?_, hle, rfl⟩, by simp [intOf]; omega⟩
              rw [hsucc, ← hy]; congr 1; omega
            · have hsp := reads_spoilt (l.map fun r => r.data.toList) q k v (by
                intro r hrm
                have h1 := total_mem hrm
                omega) (by simp; omega) (by simpa using hkl) (by omega) (by omega) (by rw [← hpl, hpx]; simpa using hvx.symm)
              rw [← hpl, ← hS] at hsp
              obtain ⟨K, hK1, hK2⟩ := hsp
              rw [hlm] at hK2
              have HK2 := Lib.hid hK2
              have HY := Lib.hid hy
              have HS := Lib.hid hS
              have HV := Lib.hid hvx
              have hle2 : decide ((y : Int) + 20 + (R.size : Int) ≤ (q : Int)) = false := by simp; omega
              clear hK2 hy hS hvx hpx hpl hlm hsucc
              have hkc : (k : Int) ≤ (c : Int) := by omega
              go_wp2_with fail
              obtain ⟨Z, hZ⟩ : ∃ Z : ByteArray, Z = ⟨S.toArray⟩ := ⟨_, rfl⟩
              have hZs : Z.size = p.size := by rw [hZ, mk_size, hSl]
              rw [← mk_list S, ← hZ] at hK1
              rw [← hZ]
              clear hZ hback
              refine (read_any Z _ hT3 (by omega)).mono ?_
              rintro e w5 ⟨u, rs, rfl, hrs, hown, hb5⟩
              obtain ⟨A5, c5, rfl, hc51, hc52⟩ := own_slice_cap hown
              rw [hK1] at hrs
              have hrA := Rs.of_own hown
              have hr5 := hr3.below hb5
              have hT5 := hT3.belowS hb5
              have hB5 := hB3.trans (hb5.mono hB3.size)
              have hlt5 := congrArg List.length hrs
              rw [lsts_len, List.length_append, List.length_take, List.length_map] at hlt5
              have hkr : k ≤ rs.length := by omega
              have htk : lsts (rs.take k) = lsts (l.take k) := by
                have h1 : (lsts rs).take k = lsts (l.take k) := by
                  rw [hrs, List.take_left' (by simp; omega)]
                  simp [lsts, List.map_take]
                rw [← h1]; simp [lsts, List.map_take]
              have htk2 : rs.take k = l.take k := lsts_inj htk
              have hrl : rs.length ≤ 1000 := by
                have := reads_len 1000 Z.data.toList
                rw [hK1, ← hrs, lsts_len] at this
                exact this
              have htot5 : k = rs.length → total (lsts rs) = y := by
                intro e
                have hK : K = [] := List.eq_nil_of_length_eq_zero (by omega)
                rw [hrs, hK, List.append_nil, HY.out]
              have htl5 : total (lsts rs) ≤ 3000 := by
                have := reads_total 1000 Z.data.toList
                rw [hK1, ← hrs, size_list] at this
                omega
              have hgz : k < rs.length → (gs rs k).size ≤ 3000 := fun h => by
                have h1 : (gs rs k).size + 20 + total ((rs.map fun r => r.data.toList).take k) ≤ total (lsts rs) := total_get rs k h
                omega
              have HGZ := Lib.hid hgz
              have hcw5 : w5.cell? ⟨g, o + k, none⟩ = some (.string R) := (hb5.cell (World.block_lt_of_cell? wr _ hc)).trans hc
              obtain ⟨t5, ht5⟩ : ∃ t5, t5 = total (lsts rs) := ⟨_, rfl⟩
              rw [← ht5] at htot5 htl5 ⊢
              have hrsl := hrA.slen
              have hK3 : ∀ (h : k < rs.length), framed (gs rs k).data.toList ≠ framed R.data.toList ∧ dig (framed (gs rs k).data.toList) = dig (framed R.data.toList) := by
                intro h
                refine HK2.out _ ?_
                have h1 : (lsts rs)[k]? = K[0]? := by
                  rw [hrs, List.getElem?_append_right (by simp; omega)]
                  congr 1
                  simp; omega
                rw [← h1]
                simp [lsts, gs, h]
              have HK3 := Lib.hid hK3
              have HT5 := Lib.hid htot5
              clear ht5 hown hlt5 htk hrs hK1 hK3 htot5 hgz hc
              have hk5 : (k : Int) ≤ (c5 : Int) := by omega
              have hkr' : (k : Int) ≤ (rs.length : Int) := by omega
              have hd5 : decide (rs.length < k) = false := by simp; omega
              have hrk : Rs w5 A5 k 1 (vs (rs.take k)) := Rs.strTake hrA hkr
              have hlk : Rs w5 (some ⟨g, o, none⟩) k 1 (vs (l.take k)) := Rs.strTake hr5 (by omega)
              rw [htk2] at hrk
              have hsl := sl22_h A5 rs.length c5 k (by omega)
              go_wp2_with fail
              go_still_tail 11, (by kernel_rfl)
              change wpList _ _ _ _ _ w5.drew
              have hT6 : Turns w5.drew := hT5
              have hB6 := hB5.drew
              have hr6 : Rs w5.drew (some ⟨g, o, none⟩) n 1 (vs l) := hr5
              have hrA6 : Rs w5.drew A5 rs.length 1 (vs rs) := hrA
              have hrk6 : Rs w5.drew A5 k 1 (vs (l.take k)) := hrk
              have hlk6 : Rs w5.drew (some ⟨g, o, none⟩) k 1 (vs (l.take k)) := hlk
              have hc6 : w5.drew.cell? ⟨g, o + k, none⟩ = some (.string R) := hcw5
              generalize w5.drew = w6 at hT6 hB6 hr6 hrA6 hrk6 hlk6 hc6 ⊢
              clear hrk hlk hrA hr5 hT5 hB5 hcw5
              go_wp2_with fail
              refine (list_any _ _ k _ _ _ (l.take k) (l.take k) _ hrk6 hlk6 (by omega)).mono ?_
              rintro e w7 ⟨rfl, hb7⟩
              rw [decide_eq_true rfl]
              have hB7 := hB6.trans (hb7.mono hB6.size)
              have hr7 := hr6.below hb7
              have hrA7 := hrA6.below hb7
              have hT7 := hT6.belowS hb7
              clear hsl hrk6 hlk6
              by_cases hkeq : k = rs.length
              · have hty := HT5.out hkeq
                have hdk : ((rs.length : Int) == (k : Int)) = true := by simp; omega
                subst hty
                go_wp2_with fail
                go_ret
                exact ⟨rfl, hB7⟩
              · have hdk : ((rs.length : Int) == (k : Int)) = false := by simp; omega
                have hkr2 : k < rs.length := by omega
                obtain ⟨hne, hdg⟩ := HK3.out hkr2
                obtain ⟨g5, o5, rfl, hc5⟩ := hrA7.str hkr2
                have hc7 : w7.cell? ⟨g, o + k, none⟩ = some (.string R) := (hb7.cell (World.block_lt_of_cell? w6 _ hc6)).trans hc6
                have hgz := HGZ.out hkr2
                obtain ⟨R5, hR5⟩ : ∃ R5, R5 = gs rs k := ⟨_, rfl⟩
                rw [← hR5] at hne hdg hc5 hgz
                have HNE := Lib.hid hne
                have HDG := Lib.hid hdg
                clear hR5 hne hdg
                go_wp2_with fail
                refine (framed_any R w7 (by omega)).mono ?_
                rintro e w8 ⟨X, rfl, hX, hb8⟩
                have hc8 : w8.cell? ⟨g5, o5 + k, none⟩ = some (.string R5) := (hb8.cell (World.block_lt_of_cell? w7 _ hc5)).trans hc5
                have hB8 := hB7.trans (hb8.mono hB7.size)
                have hT8 := hT7.belowS hb8
                have hXs : X.size ≤ 3004 := by rw [← size_list, hX, framed, List.length_append, le4_len, size_list]; omega
                have HXX := Lib.hid hX
                clear hc5 hc7 hX
                go_wp2_with fail
                refine (framed_any R5 w8 (by omega)).mono ?_
                rintro e w9 ⟨Y, rfl, hY, hb9⟩
                have hB9 := hB8.trans (hb9.mono hB8.size)
                have hT9 := hT8.belowS hb9
                have hYs : Y.size ≤ 3004 := by rw [← size_list, hY, framed, List.length_append, le4_len, size_list]; omega
                have hXY : (X.toList == Y.toList) = false := by
                  rw [Lib.toList_data, Lib.toList_data, HXX.out, hY]
                  have h1 : ¬ framed R.data.toList = framed R5.data.toList := fun h => HNE.out h.symm
                  simpa using h1
                have HYY := Lib.hid hY
                clear hY hc8
                go_wp2_with fail
                refine (of_lit X w9 hT9 (by omega)).mono ?_
                rintro e w10 ⟨d0, d1, d2, d3, hd, rfl, hb10⟩
                have hB10 := hB9.trans (hb10.mono hB9.size)
                have hT10 := hT9.belowS hb10
                go_wp2_with fail
                refine (of_lit Y w10 hT10 (by omega)).mono ?_
                rintro e w11 ⟨e0, e1, e2, e3, he, rfl, hb11⟩
                have hB11 := hB10.trans (hb11.mono hB10.size)
                have hde : [d0, d1, d2, d3] = [e0, e1, e2, e3] := by
                  rw [← hd.out, ← he.out, HXX.out, HYY.out]
                  exact HDG.out.symm
                simp only [List.cons.injEq, and_true] at hde
                obtain ⟨rfl, rfl, rfl, rfl⟩ := hde
                have heq := eq_dig d0 d1 d2 d3 d0 d1 d2 d3
                rw [decide_eq_true rfl] at heq
                go_wp2_with fail
                go_ret
                exact ⟨rfl, hB11⟩
end Go.Proofs.YtgpohndnkecbeaaDoor
