/- Contract: ref41.Read. -/
import Derived.Test.YtgpohndnkecbeaaDoorRh
import Derived.Test.YtgpohndnkecbeaaDoorPd
import Derived.StillTailTactics
namespace Go.Proofs.YtgpohndnkecbeaaDoor
open Go Go.RowKit Go.Proofs.Sc
def RReadRel (w : World) (s : ByteArray) (v i : Value) (wr : World) : Prop :=
  ∃ (rs : List ByteArray) (t : Nat), i = .int .i64 t ∧ t = total (lsts rs) ∧ reads rs.length s.data.toList = lsts rs ∧ rs.length ≤ 1000 ∧ t ≤ s.size ∧ wr.ownsRow w.heap.size 9 1 v rs.length (vs rs) ∧ Below w.heap.size w wr
theorem len4_get (s : ByteArray) (t : Nat) (h : t + 20 ≤ s.size) : len4 (s.data.toList.drop t) = rd4 (s[t]'(by omega)) (s[t + 1]'(by omega)) (s[t + 2]'(by omega)) (s[t + 3]'(by omega)) := by
  have hl := size_list s
  rw [List.drop_eq_getElem_cons (by omega), List.drop_eq_getElem_cons (by omega), List.drop_eq_getElem_cons (by omega), List.drop_eq_getElem_cons (by omega)]
  rfl
set_option maxRecDepth 100000 in
set_option maxHeartbeats 1000000 in
theorem rread_any (s : ByteArray) (w : World) (hn : s.size ≤ 900000) :
    Calls Tryd.prog 26 #[.string s] w fun e w' => ∃ (v : Value) (rs : List ByteArray), e = .returned (.tuple #[v, .int .i64 (total (lsts rs) : Nat)]) ∧ lsts rs = reads 1000 s.data.toList ∧ w'.ownsRow w.heap.size 9 1 v rs.length (vs rs) ∧ Below w.heap.size w w' := by
  go_enter Tryd.func26, Tryd.ntmps26
  go_wp2_with fail
  go_loopw [4, 5] (fun v i wr => RReadRel w s v i wr) (fun _ i _ => s.size - (intOf i).toNat)
  case atStart => exact ⟨[], 0, rfl, rfl, rfl, by simp, by omega, World.ownsRow_nil _ _ _ _, Below.refl _ _⟩
  case round =>
    obtain ⟨rs, t, rfl, ht, hpre, hrl, hts, hown, hB⟩ := hrel
    obtain ⟨w2, rfl⟩ : ∃ w2 : World, w2 = wr := ⟨_, rfl⟩
    obtain ⟨A, c, rfl, hc1, hc2⟩ := own_slice_cap hown
    have hyl : (reads rs.length s.data.toList).length = rs.length := by rw [hpre]; simp [lsts]
    have stop : firstP (s.data.toList.drop t) = none → lsts rs = reads 1000 s.data.toList := by
      intro hno
      have h1 := reads_full rs.length (1000 - rs.length) s.data.toList hyl (by rw [hpre, ← ht]; exact hno)
      rw [show rs.length + (1000 - rs.length) = 1000 by omega, hpre] at h1
      exact h1.symm
    by_cases h1000 : rs.length = 1000
    · have hd : decide ((rs.length : Int) < 1000) = false := by simp; omega
      have hfin : lsts rs = reads 1000 s.data.toList := by rw [← h1000]; exact hpre.symm
      have HT := Lib.hid ht
      clear ht hpre hyl stop
      go_wp2_with fail
      go_ret2
      exact ⟨_, rs, by rw [HT.out]; rfl, hfin, hown, hB⟩
    · have hd : decide ((rs.length : Int) < 1000) = true := by simp; omega
      by_cases h20 : t + 20 ≤ s.size
      · have hd2 : decide ((t : Int) + 20 ≤ (s.size : Int)) = true := by simp; omega
        have hl4 := len4_get s t h20
        have i0 : t < s.size := by omega
        have i1 : t + 1 < s.size := by omega
        have i2 : t + 2 < s.size := by omega
        have i3 : t + 3 < s.size := by omega
        have HT := Lib.hid ht
        have HP := Lib.hid hpre
        have HS := Lib.hid stop
        have HL := Lib.hid hl4
        clear ht hpre hyl stop hl4
        go_wp2_with fail
        obtain ⟨b0, hb0⟩ : ∃ b : UInt8, b = s[t] := ⟨_, rfl⟩
        obtain ⟨b1, hb1⟩ : ∃ b : UInt8, b = s[t + 1] := ⟨_, rfl⟩
        obtain ⟨b2, hb2⟩ : ∃ b : UInt8, b = s[t + 2] := ⟨_, rfl⟩
        obtain ⟨b3, hb3⟩ : ∃ b : UInt8, b = s[t + 3] := ⟨_, rfl⟩
        have HL4 : Hid (len4 (s.data.toList.drop t) = rd4 b0 b1 b2 b3) := by
          subst hb0 hb1 hb2 hb3
          exact HL.out
        have l0 := b0.toNat_lt
        have l1 := b1.toNat_lt
        have l2 := b2.toNat_lt
        have l3 := b3.toNat_lt
        have e0' := hb0.symm
        have e1' := hb1.symm
        have e2' := hb2.symm
        have e3' := hb3.symm
        clear HL hb0 hb1 hb2 hb3
        have j1 : (0 : Int) ≤ (t : Int) + 1 := by omega
        have j2 : (0 : Int) ≤ (t : Int) + 2 := by omega
        have j3 : (0 : Int) ≤ (t : Int) + 3 := by omega
        have k0 : (t : Int) < (s.size : Int) := by omega
        have k1 : (t : Int) + 1 < (s.size : Int) := by omega
        have k2 : (t : Int) + 2 < (s.size : Int) := by omega
        have k3 : (t : Int) + 3 < (s.size : Int) := by omega
        have wr1 : IntKind.i64.wrap ((t : Int) + 1) = (t : Int) + 1 := IntWalk.i64_in _ (by omega)
        have wr2 : IntKind.i64.wrap ((t : Int) + 2) = (t : Int) + 2 := IntWalk.i64_in _ (by omega)
        have wr3 : IntKind.i64.wrap ((t : Int) + 3) = (t : Int) + 3 := IntWalk.i64_in _ (by omega)
        have t1 : ((t : Int) + 1).toNat = t + 1 := by omega
        have t2 : ((t : Int) + 2).toNat = t + 2 := by omega
        have t3 : ((t : Int) + 3).toNat = t + 3 := by omega
        obtain ⟨y1, hy1⟩ : ∃ y : Nat, y = 256 * b1.toNat := ⟨_, rfl⟩
        obtain ⟨y2, hy2⟩ : ∃ y : Nat, y = 65536 * b2.toNat := ⟨_, rfl⟩
        obtain ⟨y3, hy3⟩ : ∃ y : Nat, y = 16777216 * b3.toNat := ⟨_, rfl⟩
        obtain ⟨z1, hz1⟩ : ∃ y : Nat, y = b0.toNat + y1 := ⟨_, rfl⟩
        obtain ⟨z2, hz2⟩ : ∃ y : Nat, y = z1 + y2 := ⟨_, rfl⟩
        obtain ⟨x, hx⟩ : ∃ y : Nat, y = z2 + y3 := ⟨_, rfl⟩
        have wu0 : IntKind.u64.wrap (b0.toNat : Int) = b0.toNat := by rw [IntKind.wrap_u64]; omega
        have wu1 : IntKind.u64.wrap (b1.toNat : Int) = b1.toNat := by rw [IntKind.wrap_u64]; omega
        have wu2 : IntKind.u64.wrap (b2.toNat : Int) = b2.toNat := by rw [IntKind.wrap_u64]; omega
        have wu3 : IntKind.u64.wrap (b3.toNat : Int) = b3.toNat := by rw [IntKind.wrap_u64]; omega
        have mu1 : IntKind.u64.wrap (256 * (b1.toNat : Int)) = y1 := by rw [IntKind.wrap_u64]; omega
        have mu2 : IntKind.u64.wrap (65536 * (b2.toNat : Int)) = y2 := by rw [IntKind.wrap_u64]; omega
        have mu3 : IntKind.u64.wrap (16777216 * (b3.toNat : Int)) = y3 := by rw [IntKind.wrap_u64]; omega
        have su1 : IntKind.u64.wrap ((b0.toNat : Int) + (y1 : Int)) = z1 := by rw [IntKind.wrap_u64]; omega
        have su2 : IntKind.u64.wrap ((z1 : Int) + (y2 : Int)) = z2 := by rw [IntKind.wrap_u64]; omega
        have su3 : IntKind.u64.wrap ((z2 : Int) + (y3 : Int)) = x := by rw [IntKind.wrap_u64]; omega
        have hxr : x = rd4 b0 b1 b2 b3 := by unfold rd4; omega
        have HL5 : Hid (len4 (s.data.toList.drop t) = x) := by rw [hxr]; exact HL4.out
        have hx32 : x < 4294967296 := by rw [hxr]; exact rd4_lt _ _ _ _
        have HR4 : Hid (t ≤ s.size) := hts
        clear hy1 hy2 hy3 hz1 hz2 hx hxr HL4 l0 l1 l2 l3
        go_still_tail 25, (by kernel_rfl)
        change wpList _ _ _ _ _ w2.drew
        clear wr1 wr2 wr3 t1 t2 t3 e0' e1' e2' e3' j1 j2 j3
        have hB' : Below w.heap.size w w2.drew := hB.drew
        have hown' := hown.drew
        generalize w2.drew = w3 at hB' hown' ⊢
        by_cases hgt : s.size - t - 20 < x
        · have hgt' : (s.size : Int) - (t : Int) - 20 < (x : Int) := by omega
          have hfin := HS.out (by rw [firstP, if_neg (by rw [List.length_drop, size_list]; omega), HL5.out, if_pos (by rw [List.length_drop, size_list]; omega)])
          go_wp2_with fail
          go_ret2
          exact ⟨_, rs, by rw [HT.out]; rfl, hfin, hown', hB'⟩
        · have hgt' : (x : Int) ≤ (s.size : Int) - (t : Int) - 20 := by omega
          go_wp2_with fail
          obtain ⟨R, hR⟩ : ∃ R, R = s.extract (t + 20) (t + 20 + x) := ⟨_, rfl⟩
          have hRl : R.data.toList = ((s.data.toList.drop t).drop 20).take x := by
            rw [hR, extract_list, List.drop_drop, List.drop_take, Nat.add_sub_cancel_left]
          have hRs : R.size = x := by rw [hR, ByteArray.size_extract]; omega
          rw [← hR]
          clear hR wu0 wu1 wu2 wu3 mu1 mu2 mu3 su1 su2 su3
          have hrd : ∀ M : List UInt8, M = sumB (framed R.data.toList) → (((s.data.toList.drop t).drop 4).take 16 = M → firstP (s.data.toList.drop t) = some R.data.toList) ∧ (((s.data.toList.drop t).drop 4).take 16 ≠ M → firstP (s.data.toList.drop t) = none) := by
            intro M hM
            have h4 : (s.data.toList.drop t).take 4 = le4 x := by
              rw [← HL5.out, le4_len4 _ (by rw [List.length_drop, size_list]; omega)]
            have h5 : framed R.data.toList = (s.data.toList.drop t).take 4 ++ ((s.data.toList.drop t).drop 20).take x := by
              rw [h4, framed, size_list, hRs, Nat.mod_eq_of_lt hx32, hRl]
            rw [h5] at hM
            refine ⟨fun h => ?_, fun h => ?_⟩
            · rw [firstP, if_neg (by rw [List.length_drop, size_list]; omega), HL5.out, if_neg (by rw [List.length_drop, size_list]; omega), ← hM, if_pos h, hRl]
            · rw [firstP, if_neg (by rw [List.length_drop, size_list]; omega), HL5.out, if_neg (by rw [List.length_drop, size_list]; omega), ← hM, if_neg h]
          have HRD := Lib.hid hrd
          have HRS := Lib.hid hRs
          have hRs2 : R.size ≤ 900000 := by omega
          clear hrd hRl hRs
          have j4 : (0 : Int) ≤ (t : Int) + 4 := by omega
          have j20 : (t : Int) + 20 ≤ (s.size : Int) := by omega
          have j420 : (t : Int) + 4 ≤ (t : Int) + 20 := by omega
          have wr4 : IntKind.i64.wrap ((t : Int) + 4) = (t : Int) + 4 := IntWalk.i64_in _ (by omega)
          have wr20 : IntKind.i64.wrap ((t : Int) + 20) = (t : Int) + 20 := IntWalk.i64_in _ (by omega)
          have t4 : ((t : Int) + 4).toNat = t + 4 := by omega
          have t20 : ((t : Int) + 20).toNat = t + 20 := by omega
          go_region_with (first | (go_at_call 62; refine (rsum_any R _ hRs2).mono ?_; rintro e w5 ⟨M, rfl, hM, hb5⟩))
          all_goals
            have hB5 := hB'.drew.trans (hb5.mono hB'.size)
            have hown5 := own_below hown'.drew hb5
            obtain ⟨hy, hno⟩ := HRD.out _ hM
            have HM := Lib.hid hM
            clear hM hown' hown hB' hB hb5 wr4 wr20 t4 t20 j4 j420
            have he1 : (s.extract (t + 4) (t + 20)).toList = ((s.data.toList.drop t).drop 4).take 16 := by
              rw [Lib.toList_data, extract_list, List.drop_take, List.drop_drop]
              congr 1
              omega
            have hsb : w.heap.size ≤ w5.heap.size := hB5.size
            have hone : ∀ u ∈ (#[.string R] : Array Value).toList, u.oneCell' = true := by simp [Value.oneCell']
            have hl16 : (rs.length + 1) * 16 ≤ 140737488355328 := by omega
            have hsb2 : w.heap.size ≤ (w5.alloc (.cells #[.string R] 9)).heap.size := by simp; omega
            go_wp2_with (first | (at_builtin; refine ap_new 22 9 _ 1 16 Tryd.underlying22 infoStr rfl (by decide) (by decide) rfl _ _ rfl w.heap.size (.slice A rs.length c) rs.length _ rfl (hown5.alloc _) w5.heap.size 1 1 #[.string R] rfl (Bx.new w5 9 _) rfl hone hl16 hsb2 ?_; intro v6 w6 hown6 hg6 hat6))
            · rename_i hx
              have hfin := HS.out (hno (fun h => by rw [he1, Lib.toList_data, h] at hx; simp at hx))
              clear he1 hy hno hx
              go_ret2
              exact ⟨_, rs, by rw [HT.out]; rfl, hfin, hown5, hB5⟩
            · rename_i hx
              have hyes := hy (by rw [he1, Lib.toList_data] at hx; simpa using hx)
              have hB6 := (hB5.alloc hB5.size (.cells #[.string R] 9)).grown hg6 hsb2 (own_base hown5)
              obtain ⟨f1, f2, f3⟩ := firstP_some hyes
              rw [List.length_drop, size_list, size_list] at f3
              refine ⟨⟨rs ++ [R], t + (20 + x), ?_, ?_, ?_, ?_, ?_, ?_, hB6⟩, ?_⟩
              · go_num
              · rw [lsts_app, total_app, ← HT.out]
                simp [lsts, total, HRS.out]
              · rw [List.length_append, List.length_singleton, reads_snoc _ _ R.data.toList (by rw [HP.out, lsts_len]) (by rw [HP.out, ← HT.out]; exact hyes), HP.out, lsts_app]
                rfl
              · rw [List.length_append, List.length_singleton]; omega
              · have := HRS.out; omega
              · rw [List.length_append, List.length_singleton, vs_app]
                exact hown6
              · simp [intOf]; omega
      · have hd2 : decide ((t : Int) + 20 ≤ (s.size : Int)) = false := by simp; omega
        have hfin := stop (by rw [firstP, if_pos (by rw [List.length_drop, size_list]; omega)])
        have HT := Lib.hid ht
        clear ht hpre hyl stop
        go_wp2_with fail
        go_ret2
        exact ⟨_, rs, by rw [HT.out]; rfl, hfin, hown, hB⟩
end Go.Proofs.YtgpohndnkecbeaaDoor
