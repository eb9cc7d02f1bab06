/- The law StoreHolds, walked. -/
import Derived.Test.YtgpohndnkecbeaaDoorTe
namespace Go.Proofs.YtgpohndnkecbeaaDoor
open Go Go.RowKit Go.Proofs.Sc
set_option maxRecDepth 100000 in
set_option maxHeartbeats 1000000 in
theorem holds_any (A : Option Addr) (n c : Nat) (l : List ByteArray) (a : ByteArray) (w : World) (hT : Turns w) (hnc : n ≤ c) (hA : A = none → c = 0) (hn : n ≤ 140737488355328) (hr : Rs w A n 1 (vs l)) :
    Calls Tryd.prog 16 #[.agg #[.slice A n c], .string a] w fun e w' => e = .returned (.bool true) ∧ Below w.heap.size w w' := by
  have hl := hr.slen
  go_enter Tryd.func16, Tryd.ntmps16
  have hs0 : Bx (w.alloc (.cells #[.slice A n c] 34)) w.heap.size 34 #[.slice A n c] := Bx.new _ _ _
  have hB0 : Below w.heap.size w (w.alloc (.cells #[.slice A n c] 34)) := (Below.refl _ _).alloc (Nat.le_refl _) _
  go_wp2_with fail
  refine (small_any A n c l _ (hr.below hB0) hn).mono ?_
  rintro e w1 ⟨⟨q, rfl, hb⟩, hb1⟩
  have hB1 := hB0.trans (hb1.mono hB0.size)
  have hs1 := hs0.belowS hb1
  have hT1 := hT.belowS hB1
  have hr1 := hr.below hB1
  have s1 : w1.cell? ⟨w.heap.size, 0, none⟩ = some (.slice A n c) := hs1.cell 0
  clear hs0 hb1
  by_cases hok : q = true ∧ a.size ≤ 60
  · obtain ⟨rfl, ha⟩ := hok
    obtain ⟨hf, hri⟩ := hb.1 rfl
    have hn20 : n ≤ 20 := by have := hf.1; omega
    have hsz : ∀ s ∈ l, s.size ≤ 1000000 := fun s h => by have := hf.2 s h; omega
    have hab : (a.size : Int) ≤ 60 := by omega
    clear hb hf hri
    go_wp2_with fail
    refine (add_any A n c l a w1 hT1 hr1 (by omega) hnc hA hsz (by omega)).mono ?_
    rintro e w2 ⟨A2, n2, c2, rfl, hnc2, hA2, hr2, hb2⟩
    have hB2 := hB1.trans (hb2.mono hB1.size)
    have hs2 := hs1.belowS hb2
    have z2 := hs2.lt
    have s2 : w2.cell? ⟨w.heap.size, 0, none⟩ = some (.slice A n c) := hs2.cell 0
    have hn2 := hr2.slen
    clear hs1 s1 hT1 hr1 hb2
    rcases addP_err (l := l) (a := a) (by omega) with h0 | h8
    · obtain ⟨hfi, hgi, hag, hle1, hle2, hlt⟩ := holds_add h0
      obtain ⟨p, hp⟩ : ∃ p, p = addP l a := ⟨_, rfl⟩
      rw [← hp] at h0 hfi hgi hag hle1 hle2 hlt hr2 hn2 ⊢
      have hmem : ∀ s ∈ p.1, s.size ≤ 1000000 := by
        intro s hs
        rw [hp] at hs
        rcases addP_mem hs with h | rfl
        · exact hsz s h
        · omega
      clear hp
      obtain ⟨L, I, E⟩ := p
      simp only at h0 hfi hgi hag hle1 hle2 hlt hr2 hn2 hmem ⊢
      subst h0
      have hget : getP L (dg a) = (a, 0) := by rw [getP, hfi]; show (gs L I, 0) = _; rw [hgi]
      have hprv : proveP L (dg a) = (I, way (dgs L) I, 0) := by rw [proveP, hfi]
      have hupw : up n2 I (dg a) (way (dgs L) I) = (root (dgs L), true) := by
        have h1 := up_way (dgs L) I (by rw [dgs_len]; exact hlt)
        rw [dgs_len, dgs_get L I hlt, hgi, hn2] at h1
        exact h1
      have hwl : (way (dgs L) I).length ≤ 20 := by
        have h1 := way_len (dgs L) I
        rw [dgs_len] at h1
        omega
      have hww : Wl (way (dgs L) I) := way_wl _ _ (dgs_wl L)
      have hIn : I < n2 := by omega
      have hn21 : n2 ≤ 21 := by omega
      have hnn : (n : Int) ≤ (n2 : Int) := by omega
      obtain ⟨P, hP⟩ : ∃ P, P = way (dgs L) I := ⟨_, rfl⟩
      rw [← hP] at hprv hupw hwl hww
      have HG := Lib.hid hget
      have HPR := Lib.hid hprv
      have HU := Lib.hid hupw
      have HAG := Lib.hid hag
      have hW4 := dg_w4 a
      have heqa : (a.toList == a.toList) = true := by simp
      clear hP hfi hgi hag hle1 hle2 hlt hget hprv hupw hsz hl
      have x2 : Bx (w2.alloc (.cells #[.slice A2 n2 c2] 34)) w2.heap.size 34 #[.slice A2 n2 c2] := Bx.new _ _ _
      have hB2' := hB2.alloc hB2.size (.cells #[.slice A2 n2 c2] 34)
      have hs2' := hs2.alloc (.cells #[.slice A2 n2 c2] 34)
      have hr2' := hr2.alloc (.cells #[.slice A2 n2 c2] 34)
      go_wp2_with fail
      generalize (w2.alloc (.cells #[.slice A2 n2 c2] 34)) = W at x2 hB2' hs2' hr2' ⊢
      obtain ⟨xb, hxb⟩ : ∃ xb, xb = w2.heap.size := ⟨_, rfl⟩
      rw [← hxb] at x2 ⊢
      clear hxb z2 s2 hr2 hs2 hB2
      refine (rof_dg a W (by omega)).mono ?_
      rintro e w3 ⟨d0, d1, d2, d3, hd, rfl, hb3⟩
      have hdw : W4 [d0, d1, d2, d3] := by rw [← hd.out]; exact hW4
      have hB3 := hB2'.trans (hb3.mono hB2'.size)
      have hs3 := hs2'.belowS hb3
      have x3 := x2.belowS hb3
      have hr3 := hr2'.below hb3
      have y3 : Bx (w3.alloc (.cells #[.int .u32 d0, .int .u32 d1, .int .u32 d2, .int .u32 d3] 39)) w3.heap.size 39 (wds [d0, d1, d2, d3]) := Bx.new _ _ _
      have hB3' := hB3.alloc hB3.size (.cells #[.int .u32 d0, .int .u32 d1, .int .u32 d2, .int .u32 d3] 39)
      have hs3' := hs3.alloc (.cells #[.int .u32 d0, .int .u32 d1, .int .u32 d2, .int .u32 d3] 39)
      have x3' := x3.alloc (.cells #[.int .u32 d0, .int .u32 d1, .int .u32 d2, .int .u32 d3] 39)
      have hr3' := hr3.alloc (.cells #[.int .u32 d0, .int .u32 d1, .int .u32 d2, .int .u32 d3] 39)
      have z3 := x3.lt
      have x3c : w3.cell? ⟨xb, 0, none⟩ = some (.slice A2 n2 c2) := x3.cell 0
      clear hb3 hs2' x2 hr2' hB2' hW4
      go_wp2_with fail
      generalize (w3.alloc (.cells #[.int .u32 d0, .int .u32 d1, .int .u32 d2, .int .u32 d3] 39)) = V at y3 hB3' hs3' x3' hr3' ⊢
      obtain ⟨db, hdb⟩ : ∃ db, db = w3.heap.size := ⟨_, rfl⟩
      rw [← hdb] at y3 ⊢
      clear hdb z3 x3c hB3 hs3 x3 hr3
      have hTV := hT.belowS hB3'
      refine (get_any A2 n2 c2 L d0 d1 d2 d3 V hTV hr3' (by omega) hmem).mono ?_
      rintro e w4 ⟨rfl, hb4⟩
      rw [← hd.out, HG.out]
      have hB4 := hB3'.trans (hb4.mono hB3'.size)
      have hs4 := hs3'.belowS hb4
      have x4 := x3'.belowS hb4
      have y4 := y3.belowS hb4
      have hr4 := hr3'.below hb4
      have x4c : w4.cell? ⟨xb, 0, none⟩ = some (.slice A2 n2 c2) := x4.cell 0
      obtain ⟨k0, k1, k2, k3⟩ := y4.w4c
      have hT4 := hT.belowS hB4
      clear hb4 hTV hs3' x3' y3 hr3' hB3'
      go_wp2_with fail
      refine (sprove_any A2 n2 c2 L d0 d1 d2 d3 w4 hT4 hr4 (by omega) hmem).mono ?_
      rintro e w5 ⟨v, rfl, hown, hb5⟩
      rw [← hd.out, HPR.out] at hown ⊢
      obtain ⟨A5, c5, rfl, hds⟩ := ds_own hown hww rfl
      obtain ⟨m5, hm5⟩ : ∃ m5, m5 = P.length := ⟨_, rfl⟩
      simp only at hds ⊢
      rw [← hm5] at hds hwl ⊢
      have hB5 := hB4.trans (hb5.mono hB4.size)
      have hs5 := hs4.belowS hb5
      have x5 := x4.belowS hb5
      have y5 := y4.belowS hb5
      have hr5 := hr4.below hb5
      have x5c : w5.cell? ⟨xb, 0, none⟩ = some (.slice A2 n2 c2) := x5.cell 0
      have hT5 := hT.belowS hB5
      clear hm5 hown hb5 hT4 hs4 x4 y4 hr4 x4c k0 k1 k2 k3 hB4
      go_wp2_with fail
      refine (add_any A2 n2 c2 L a w5 hT5 hr5 (by omega) hnc2 hA2 hmem (by omega)).mono ?_
      rintro e w6 ⟨A6, n6, c6, rfl, hnc6, hA6, hr6, hb6⟩
      rw [HAG.out] at hr6 ⊢
      simp only at hr6 ⊢
      have hB6 := hB5.trans (hb6.mono hB5.size)
      have hs6 := hs5.belowS hb6
      have x6 := x5.belowS hb6
      have y6 := y5.belowS hb6
      have hx6 := hr5.below hb6
      have hds6 := hds.below hb6
      have z6 := x6.lt
      have z6' := hs6.lt
      have z6'' := y6.lt
      have u6 : Bx (w6.alloc (.cells #[.slice A6 n6 c6] 34)) w6.heap.size 34 #[.slice A6 n6 c6] := Bx.new _ _ _
      have hB6' := hB6.alloc hB6.size (.cells #[.slice A6 n6 c6] 34)
      have hs6' := hs6.alloc (.cells #[.slice A6 n6 c6] 34)
      have x6' := x6.alloc (.cells #[.slice A6 n6 c6] 34)
      have y6' := y6.alloc (.cells #[.slice A6 n6 c6] 34)
      have hx6' := hx6.alloc (.cells #[.slice A6 n6 c6] 34)
      have hr6' := hr6.alloc (.cells #[.slice A6 n6 c6] 34)
      have hds6' := hds6.below ((Below.refl _ _).alloc (Nat.le_refl _) (.cells #[.slice A6 n6 c6] 34))
      clear hb6 hT5 hs5 x5 y5 hr5 x5c hds hB5
      go_wp2_with fail
      generalize (w6.alloc (.cells #[.slice A6 n6 c6] 34)) = U at u6 hB6' hs6' x6' y6' hx6' hr6' hds6' ⊢
      obtain ⟨ub, hub⟩ : ∃ ub, ub = w6.heap.size := ⟨_, rfl⟩
      rw [← hub] at u6 ⊢
      clear hub z6 z6' z6'' hB6 hs6 x6 y6 hx6 hr6 hds6
      have hTU := hT.belowS hB6'
      have a0 : U.cell? ⟨w.heap.size, 0, none⟩ = some (.slice A n c) := hs6'.cell 0
      have a1 : U.cell? ⟨xb, 0, none⟩ = some (.slice A2 n2 c2) := x6'.cell 0
      have a2 : U.cell? ⟨ub, 0, none⟩ = some (.slice A6 n6 c6) := u6.cell 0
      obtain ⟨k0, k1, k2, k3⟩ := y6'.w4c
      go_region_held3 (fun X : World => X.cell? ⟨w.heap.size, 0, none⟩ = some (.slice A n c) ∧ X.cell? ⟨xb, 0, none⟩ = some (.slice A2 n2 c2) ∧ X.cell? ⟨ub, 0, none⟩ = some (.slice A6 n6 c6) ∧ X.cell? ⟨db, 0, none⟩ = some (.int .u32 (d0 : Nat)) ∧ X.cell? ⟨db, 1, none⟩ = some (.int .u32 (d1 : Nat)) ∧ X.cell? ⟨db, 2, none⟩ = some (.int .u32 (d2 : Nat)) ∧ X.cell? ⟨db, 3, none⟩ = some (.int .u32 (d3 : Nat))) (go_keep) (first
        | (go_at_call 40; refine (awake42_any _ ?_).mono ?_; exact hTU; rintro e w7 ⟨rfl, hb7⟩; have hB7 := hB6'.drew.trans (hb7.mono hB6'.size); have hs7 := hs6'.drew.belowS hb7; have x7 := x6'.drew.belowS hb7; have u7 := u6.drew.belowS hb7; have y7 := y6'.drew.belowS hb7; have b0 : w7.cell? ⟨w.heap.size, 0, none⟩ = some (.slice A n c) := hs7.cell 0; have b1 : w7.cell? ⟨xb, 0, none⟩ = some (.slice A2 n2 c2) := x7.cell 0; have b2 : w7.cell? ⟨ub, 0, none⟩ = some (.slice A6 n6 c6) := u7.cell 0; obtain ⟨i0, i1, i2, i3⟩ := y7.w4c; have hx7 := hx6'.drew.below hb7; have hr7 := hr6'.drew.below hb7; have hds7 := hds6'.drew.below hb7; have hT7 := hT.belowS hB7)
        | (go_at_call 49; refine (root_any A2 n2 c2 L w7 hT7 hx7 (by omega) hmem).mono ?_; rintro e w8 ⟨r0, r1, r2, r3, hro, rfl, hb8⟩; have hB8 := hB7.trans (hb8.mono hB7.size); have hs8 := hs7.belowS hb8; have x8 := x7.belowS hb8; have u8 := u7.belowS hb8; have y8 := y7.belowS hb8; have e0 : w8.cell? ⟨w.heap.size, 0, none⟩ = some (.slice A n c) := hs8.cell 0; have e1 : w8.cell? ⟨xb, 0, none⟩ = some (.slice A2 n2 c2) := x8.cell 0; have e2 : w8.cell? ⟨ub, 0, none⟩ = some (.slice A6 n6 c6) := u8.cell 0; obtain ⟨j0, j1, j2, j3⟩ := y8.w4c; have hx8 := hx7.below hb8; have hr8 := hr7.below hb8; have hds8 := hds7.below hb8)
        | (go_at_call 55; refine (rcheck_any r0 r1 r2 r3 n2 I d0 d1 d2 d3 P A5 m5 c5 w8 (by omega) hIn hwl hds8 hdw).mono ?_; rintro e w9 ⟨rfl, hb9⟩; rw [← hd.out, HU.out, ← hro.out, decide_eq_true rfl, Bool.and_self]; have hB9 := hB8.trans (hb9.mono hB8.size); have hs9 := hs8.belowS hb9; have x9 := x8.belowS hb9; have u9 := u8.belowS hb9; have y9 := y8.belowS hb9; have f0 : w9.cell? ⟨w.heap.size, 0, none⟩ = some (.slice A n c) := hs9.cell 0; have f1 : w9.cell? ⟨xb, 0, none⟩ = some (.slice A2 n2 c2) := x9.cell 0; have f2 : w9.cell? ⟨ub, 0, none⟩ = some (.slice A6 n6 c6) := u9.cell 0; obtain ⟨m0, m1, m2, m3⟩ := y9.w4c; have hx9 := hx8.below hb9; have hr9 := hr8.below hb9)
        | (go_at_call 37; refine (same_any A2 A6 n2 c2 n6 c6 L L w9 hx9 hr9 (by omega)).mono ?_; rintro e w10 ⟨rfl, hb10⟩; rw [decide_eq_true rfl]; have hB10 := hB9.trans (hb10.mono hB9.size); have g0 : w10.cell? ⟨w.heap.size, 0, none⟩ = some (.slice A n c) := (hs9.belowS hb10).cell 0; have g1 : w10.cell? ⟨xb, 0, none⟩ = some (.slice A2 n2 c2) := (x9.belowS hb10).cell 0; have g2 : w10.cell? ⟨ub, 0, none⟩ = some (.slice A6 n6 c6) := (u9.belowS hb10).cell 0; obtain ⟨o0, o1, o2, o3⟩ := (y9.belowS hb10).w4c))
      all_goals
        go_wp2_with fail
        go_ret
        refine ⟨?_, hB10⟩
        first | rfl | simp
    · obtain ⟨p, hp⟩ : ∃ p, p = addP l a := ⟨_, rfl⟩
      rw [← hp] at h8 hr2 hn2 ⊢
      clear hp
      obtain ⟨L, I, E⟩ := p
      simp only at h8 hr2 hn2 ⊢
      subst h8
      have hB2' := hB2.alloc hB2.size (.cells #[.slice A2 n2 c2] 34)
      have hT2 := hT.belowS hB2'
      clear hr2
      go_wp2_with fail
      refine (awake42_any _ ?_).mono ?_
      · exact hT2
      rintro e w3 ⟨rfl, hb3⟩
      have hB3 := hB2'.trans (hb3.mono hB2'.size)
      go_wp2_with fail
      go_ret
      exact ⟨rfl, hB3⟩
  · cases q with
    | false =>
      go_wp2_with fail
      refine (awake42_any w1 hT1).mono ?_
      rintro e w2 ⟨rfl, hb2⟩
      have hB2 := hB1.trans (hb2.mono hB1.size)
      go_wp2_with fail
      go_ret
      exact ⟨rfl, hB2⟩
    | true =>
      have hab : ¬ (a.size : Int) ≤ 60 := fun h => hok ⟨rfl, by omega⟩
      clear hok hb
      go_wp2_with fail
      all_goals
        refine (awake42_any w1 hT1).mono ?_
        rintro e w2 ⟨rfl, hb2⟩
        have hB2 := hB1.trans (hb2.mono hB1.size)
        go_wp2_with fail
        go_ret
        exact ⟨rfl, hB2⟩
end Go.Proofs.YtgpohndnkecbeaaDoor
