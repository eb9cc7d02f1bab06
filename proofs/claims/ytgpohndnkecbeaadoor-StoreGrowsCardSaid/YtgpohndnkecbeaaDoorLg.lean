/- The law StoreGrows, walked. -/
import Derived.Test.YtgpohndnkecbeaaDoorLf
import Derived.Test.YtgpohndnkecbeaaDoorTf
import Derived.Test.YtgpohndnkecbeaaDoorTg
namespace Go.Proofs.YtgpohndnkecbeaaDoor
open Go Go.RowKit Go.Proofs.Sc
/-- What the law asks of a store that grew. -/
theorem grows_plain {l more : List ByteArray} (hl : 0 < l.length) (hn : l.length ≤ 20) (hm : more.length ≤ 10) :
    ∃ xs, xs = addsP l more ∧ xs.take l.length = l ∧ l.length ≤ xs.length ∧ xs.length ≤ 30 ∧ (goes (dgs xs) l.length true).length ≤ 20 ∧
      onP (root (dgs l)) l.length xs.length true (goes (dgs xs) l.length true) = (root (dgs l), root (dgs xs), true) := by
  obtain ⟨m, e, h⟩ := adds_grow l more
  have hx : (addsP l more).length ≤ 30 := by have := addsP_len l more; omega
  have ht : (addsP l more).take l.length = l := by rw [e]; simp
  have hle : l.length ≤ (addsP l more).length := by rw [e]; simp
  have hd : (dgs (addsP l more)).take l.length = dgs l := by
    conv => rhs; rw [← ht]
    simp [dgs, List.map_take]
  refine ⟨_, rfl, ht, hle, hx, ?_, ?_⟩
  · have := goes_short 5 (dgs (addsP l more)) l.length true hl (by rw [dgs_len]; omega)
    omega
  · have := on_goes (root (dgs l)) (dgs (addsP l more)) l.length true hl (by rw [dgs_len]; exact hle) (fun _ => by rw [hd])
    rw [hd, dgs_len] at this
    exact this
set_option maxRecDepth 100000 in
set_option maxHeartbeats 2000000 in
theorem grows_any (A : Option Addr) (n c : Nat) (l : List ByteArray) (A' : Option Addr) (n' c' : Nat) (l' : List ByteArray) (w : World) (hT : Turns w) (hnc : n ≤ c) (hA : A = none → c = 0) (hn : n ≤ 140737488355328) (hr : Rs w A n 1 (vs l))
    (_hnc' : n' ≤ c') (_hA' : A' = none → c' = 0) (hn' : n' ≤ 8796093022208) (hr' : Rs w A' n' 1 (vs l')) (_hs' : ∀ s ∈ l', s.size ≤ 140737488355328) :
    Calls Tryd.prog 13 #[.agg #[.slice A n c], .slice A' n' c'] w fun e w' => e = .returned (.bool true) ∧ Below w.heap.size w w' := by
  have hl := hr.slen
  have hl' := hr'.slen
  clear _hs' _hA' _hnc'
  go_enter Tryd.func13, Tryd.ntmps13
  have hs0 : Bx (w.alloc (.cells #[.slice A n c] 34)) w.heap.size 34 #[.slice A n c] := Bx.new _ _ _
  have hB0 : Below w.heap.size w (w.alloc (.cells #[.slice A n c] 34)) := (Below.refl _ _).alloc (Nat.le_refl _) _
  go_wp2_with fail
  refine (small_any A n c l _ (hr.below hB0) hn).mono ?_
  rintro e w1 ⟨⟨q, rfl, hb⟩, hb1⟩
  have hB1 := hB0.trans (hb1.mono hB0.size)
  have hs1 := hs0.belowS hb1
  have hT1 := hT.belowS hB1
  have s1 : w1.cell? ⟨w.heap.size, 0, none⟩ = some (.slice A n c) := hs1.cell 0
  clear hs0 hb1
  cases q with
  | false =>
    clear hb
    go_wp2_with fail
    refine (awake42_any w1 hT1).mono ?_
    rintro e w2 ⟨rfl, hb2⟩
    have hB2 := hB1.trans (hb2.mono hB1.size)
    go_wp2_with fail
    go_ret
    exact ⟨rfl, hB2⟩
  | true =>
    obtain ⟨hf, hri⟩ := hb.1 rfl
    have hn20 : n ≤ 20 := by have := hf.1; omega
    have hsl : ∀ s ∈ l, s.size ≤ 60 := hf.2
    clear hb hf hri
    go_wp2_with fail
    refine (few_any A' n' c' 10 60 l' w1 (hr'.below hB1) (by omega) (by omega) (by omega)).mono ?_
    rintro e w2 ⟨rfl, hb2⟩
    have hB2 := hB1.trans (hb2.mono hB1.size)
    have hs2 := hs1.belowS hb2
    have hT2 := hT.belowS hB2
    have s2 : w2.cell? ⟨w.heap.size, 0, none⟩ = some (.slice A n c) := hs2.cell 0
    clear hs1 s1 hT1 hb2
    by_cases hf : fewP l' 10 60 ∧ 0 < n
    · rw [decide_eq_true hf.1]
      have hn10 : n' ≤ 10 := by have := hf.1.1; omega
      have hsz : ∀ s ∈ l', s.size ≤ 60 := hf.1.2
      have hn0 : 0 < n := hf.2
      have e0 : ((n : Int) == 0) = false := by simp; omega
      clear hf
      obtain ⟨xs, hxs, hxt, hxl, hx30, hgl, hon⟩ := grows_plain (l := l) (more := l') (by omega) (by omega) (by omega)
      rw [hl] at hxt hxl hgl hon
      have hlsz : ∀ s ∈ l, s.size ≤ 1000000 := fun s h => by have := hsl s h; omega
      have hxsz : ∀ s ∈ xs, s.size ≤ 1000000 := by
        intro s h
        rw [hxs] at h
        rcases addsP_mem h with h | h
        · exact hlsz s h
        · have := hsz s h; omega
      have HXS := Lib.hid hxs
      have HON := Lib.hid hon
      clear hon hxs
      have hs8 : Bx (w2.alloc (.cells #[.slice A n c] 34)) w2.heap.size 34 #[.slice A n c] := Bx.new _ _ _
      have hx8 := hs2.alloc (.cells #[.slice A n c] 34)
      have hB8' := hB2.alloc hB2.size (.cells #[.slice A n c] 34)
      have zs := hs2.lt
      go_wp2_with fail
      generalize (w2.alloc (.cells #[.slice A n c] 34)) = W at hs8 hx8 hB8' ⊢
      obtain ⟨sb, hsb⟩ : ∃ sb, sb = w2.heap.size := ⟨_, rfl⟩
      rw [← hsb] at hs8 zs ⊢
      have hsw : w.heap.size ≤ sb := by omega
      obtain ⟨xb, hxb⟩ : ∃ xb, xb = w.heap.size := ⟨_, rfl⟩
      have hne : xb ≠ sb := by omega
      have hx8 : Bx W xb 34 #[.slice A n c] := by rw [hxb]; exact hx8
      clear hsb s2 hs2 hT2 hB2
      go_loopw [6] (fun i wr => TwiceRel w A n c xb l l' l sb i wr) (fun i _ => n' - (intOf i).toNat)
      case atStart => exact ⟨0, A, n, c, by omega, rfl, hs8, hnc, hA, hr.below hB8', hx8, hr.below hB8', hB8'⟩
      case round =>
        obtain ⟨k, B, m, d, hk, rfl, hs, hmd, hBn, hrb, hx, hrx, hB⟩ := hrel
        obtain ⟨w2, rfl⟩ : ∃ w2 : World, w2 = wr := ⟨_, rfl⟩
        clear hx8 hs8 hB8'
        have s2 : w2.cell? ⟨sb, 0, none⟩ = some (.slice B m d) := hs.cell 0
        have hT2 := hT.belowS hB
        by_cases hlt : k < n'
        · obtain ⟨g, o, rfl, hc⟩ := (hr'.below hB).str hlt
          have hRs : (gs l' k).size ≤ 1000000 := by have := hsz (gs l' k) (by simp [gs, show k < l'.length by omega]); omega
          have hnx := adds_next (l := l') (k := k) (by omega) l
          obtain ⟨L, hL⟩ : ∃ L, L = addsP l (l'.take k) := ⟨_, rfl⟩
          obtain ⟨R, hR⟩ : ∃ R, R = gs l' k := ⟨_, rfl⟩
          have hLn : L.length ≤ 30 := by
            have h2 := addsP_len l (l'.take k)
            rw [← hL, List.length_take] at h2
            omega
          have hLs : ∀ s ∈ L, s.size ≤ 1000000 := by
            intro s hs
            rw [hL] at hs
            rcases addsP_mem hs with h | h
            · have := hsl s h; omega
            · have := hsz s (List.mem_of_mem_take h); omega
          rw [← hL, ← hR] at hnx
          rw [← hL] at hrb
          rw [← hR] at hc hRs
          have hmL := hrb.slen
          have hE := addP_err (l := L) (a := R) (by omega)
          obtain ⟨q, hq⟩ : ∃ q, q = addP L R := ⟨_, rfl⟩
          rw [← hq] at hE hnx
          obtain ⟨Lq, I, E⟩ := q
          simp only at hE hnx
          have HQ := Lib.hid hq
          have HN := Lib.hid hnx
          have hd : decide (k < n') = true := by simp; omega
          have hkn : (k : Int) < (n' : Int) := by omega
          clear hL hR hq hnx
          rcases hE with rfl | rfl
          all_goals
            go_wp2_with fail
            have ba : Below w2.heap.size w2 (w2.alloc (.cells #[.slice none 0 0] 34)).drew := ((Below.refl _ _).alloc (Nat.le_refl _) _).drew
            have hng : g ≠ w2.heap.size := Nat.ne_of_lt (World.block_lt_of_cell? w2 ⟨g, o + k, none⟩ hc)
            have hslt : w2.heap.size < (w2.alloc (.cells #[.slice none 0 0] 34)).heap.size := by simp
            have hnsb : sb ≠ w2.heap.size := by have := hs.lt; omega
            have hnxb : xb ≠ w2.heap.size := by have := hx.lt; omega
            go_region_held3 (fun X : World => X.cell? ⟨sb, 0, none⟩ = some (.slice B m d) ∧ X.cell? ⟨g, o + k, none⟩ = some (.string R)) (first | go_keep | exact ⟨S3, C3⟩) (first
              | (go_at_call 41; refine (add_any B m d L R _ ?_ ?_ (by omega) hmd hBn hLs hRs).mono ?_; (first | exact hT2 | exact hT2.belowS ba); (first | exact hrb | exact hrb.below ba); rintro e w3 ⟨A3, n3, c3, rfl, hnc3, hA3, hr3, hb3⟩; rw [← HQ.out] at hr3 ⊢; first
                | (have hb3' : Below w2.heap.size w2 w3 := (Below.refl w2.heap.size w2).drew.trans hb3; have hB3 := hB.trans (hb3'.mono hB.size); have hs3 := hs.belowS hb3'; have hx3 := hx.belowS hb3'; have hrx3 := hrx.below hb3'; have hrb3 := hrb.below hb3'; have s3 : w3.cell? ⟨sb, 0, none⟩ = some (.slice B m d) := hs3.cell 0; have c3' : w3.cell? ⟨g, o + k, none⟩ = some (.string R) := (hb3'.cell (p := ⟨g, o + k, none⟩) (World.block_lt_of_cell? w2 _ hc)).trans hc)
                | (have hb3' : Below w2.heap.size w2 w3 := ba.trans (hb3.mono (Nat.le_of_lt hslt)); have hB3 := hB.trans (hb3'.mono hB.size); have hs3 := hs.belowS hb3'; have hx3 := hx.belowS hb3'; have hrx3 := hrx.below hb3'; have hrb3 := hrb.below hb3'; have s3 : w3.cell? ⟨sb, 0, none⟩ = some (.slice B m d) := hs3.cell 0; have c3' : w3.cell? ⟨g, o + k, none⟩ = some (.string R) := (hb3'.cell (p := ⟨g, o + k, none⟩) (World.block_lt_of_cell? w2 _ hc)).trans hc; have hn3 : Bx w3 w2.heap.size 34 #[.slice none 0 0] := (Bx.new w2 34 #[.slice none 0 0]).drew.belowS hb3; have n3c : w3.cell? ⟨w2.heap.size, 0, none⟩ = some (.slice none 0 0) := hn3.cell 0; have f3 := hn3.frozen 0; have S3 : (w3.setCell ⟨w2.heap.size, 0, none⟩ (.slice A3 n3 c3)).cell? ⟨sb, 0, none⟩ = some (.slice B m d) := (hs3.far hnsb _).cell 0; have C3 : (w3.setCell ⟨w2.heap.size, 0, none⟩ (.slice A3 n3 c3)).cell? ⟨g, o + k, none⟩ = some (.string R) := (((Below.refl w2.heap.size w3).setCell (p := ⟨w2.heap.size, 0, none⟩) (Nat.le_refl _) (.slice A3 n3 c3)).cell (p := ⟨g, o + k, none⟩) (World.block_lt_of_cell? w2 _ hc)).trans c3')))
            all_goals
              first
                | (have hs4 := hs3.alloc (.cells #[.slice A3 n3 c3] 34)
                   have hx4 := hx3.alloc (.cells #[.slice A3 n3 c3] 34)
                   have hrx4 := hrx3.alloc (.cells #[.slice A3 n3 c3] 34)
                   have hr4 := hr3.alloc (.cells #[.slice A3 n3 c3] 34)
                   have hrb4 := hrb3.alloc (.cells #[.slice A3 n3 c3] 34)
                   have hn4 : Bx (w3.alloc (.cells #[.slice A3 n3 c3] 34)) w3.heap.size 34 #[.slice A3 n3 c3] := Bx.new _ _ _
                   have hB4 := hB3.alloc hB3.size (.cells #[.slice A3 n3 c3] 34)
                   generalize w3.alloc (.cells #[.slice A3 n3 c3] 34) = w4 at hs4 hx4 hrx4 hr4 hrb4 hn4 hB4 ⊢
                   obtain ⟨nb, hnb⟩ : ∃ nb, nb = w3.heap.size := ⟨_, rfl⟩
                   rw [← hnb] at hn4 ⊢)
                | (have hs4 := hs3.far (p := ⟨w2.heap.size, 0, none⟩) hnsb (.slice A3 n3 c3)
                   have hx4 := hx3.far (p := ⟨w2.heap.size, 0, none⟩) hnxb (.slice A3 n3 c3)
                   have hrx4 := rs_apart hrx3 hn3 (.slice A3 n3 c3)
                   have hr4 := rs_apart hr3 hn3 (.slice A3 n3 c3)
                   have hrb4 := rs_apart hrb3 hn3 (.slice A3 n3 c3)
                   have hn4 : Bx (w3.setCell ⟨w2.heap.size, 0, none⟩ (.slice A3 n3 c3)) w2.heap.size 34 #[.slice A3 n3 c3] := hn3.set 0 _
                   have hzz : w.heap.size ≤ (⟨w2.heap.size, 0, none⟩ : Addr).block := hB.size
                   have hB4 := hB3.setCell hzz (.slice A3 n3 c3)
                   generalize w3.setCell ⟨w2.heap.size, 0, none⟩ (.slice A3 n3 c3) = w4 at hs4 hx4 hrx4 hr4 hrb4 hn4 hB4 ⊢
                   obtain ⟨nb, hnb⟩ : ∃ nb, nb = w2.heap.size := ⟨_, rfl⟩
                   rw [← hnb] at hn4 ⊢)
              have n4c : w4.cell? ⟨nb, 0, none⟩ = some (.slice A3 n3 c3) := hn4.cell 0
              have s4 : w4.cell? ⟨sb, 0, none⟩ = some (.slice B m d) := hs4.cell 0
              have f4 := hs4.frozen 0
              clear hs3 hx3 hrx3 hr3 hrb3 hB3 s3 c3' hnb hb3 hb3' hs hx hrx hrb hB s2 hT2 ba hslt
              go_wp2_with fail
              first
                | exact ⟨⟨k + 1, A3, n3, c3, by omega, by go_num, hs4.set 0 _, hnc3, hA3, by rw [HN.out]; exact rs_apart hr4 hs4 _, hx4.far hne _, rs_apart hrx4 hs4 _, hB4.setCell hsw _⟩, by simp [intOf]; omega⟩
                | exact ⟨⟨k + 1, B, m, d, by omega, by go_num, hs4, hmd, hBn, by rw [HN.out]; exact hrb4, hx4, hrx4, hB4⟩, by simp [intOf]; omega⟩
        · obtain rfl : k = n' := by omega
          rw [List.take_of_length_le (by omega), ← HXS.out] at hrb
          have hd : decide (k < k) = false := by simp
          have hx2 : w2.cell? ⟨w.heap.size, 0, none⟩ = some (.slice A n c) := by rw [← hxb]; exact hx.cell 0
          have hmx := hrb.slen
          have hnm : (n : Int) ≤ (m : Int) := by omega
          have hdm : decide ((m : Int) < (n : Int)) = false := by simp; omega
          have hdm2 : decide (m < n) = false := by simp; omega
          have hmd2 : n ≤ d := by omega
          have hsl2 := sl22_h B m d n hmd2
          have hrt : Rs w2 B n 1 (vs (xs.take n)) := Rs.strTake hrb (by omega)
          rw [hxt] at hrt
          clear hlt
          have hsw2 : w2.cell? ⟨sb, 0, none⟩ = some (.slice B m d) := hs.cell 0
          go_wp2_with fail
          go_region_held3 (fun X : World => X.cell? ⟨sb, 0, none⟩ = some (.slice B m d) ∧ X.cell? ⟨w.heap.size, 0, none⟩ = some (.slice A n c)) (go_keep) (first
            | (go_at_call 44; refine (rsame_any B A n d n c l l _ ?_ ?_ (by omega)).mono ?_; exact hrt; exact hrx; rintro e w3 ⟨rfl, hb3⟩; rw [decide_eq_true rfl]; have hB3 := hB.drew.trans (hb3.mono hB.size); have hs3 := hs.drew.belowS hb3; have hx3 := hx.drew.belowS hb3; have hrx3 := hrx.drew.below hb3; have hrb3 := hrb.drew.below hb3; have s3 : w3.cell? ⟨sb, 0, none⟩ = some (.slice B m d) := hs3.cell 0; have x3 : w3.cell? ⟨w.heap.size, 0, none⟩ = some (.slice A n c) := by rw [← hxb]; exact hx3.cell 0))
          clear hs hx hrx hrb hB s2 hT2 hsw2 hx2 hrt hsl2 hb3
          go_wp2_with fail
          refine (rdigests_any B m d xs w3 hrb3 (by omega) hxsz).mono ?_
          rintro e w4 ⟨v, rfl, hown, hb4⟩
          obtain ⟨A4, c4, rfl, hds⟩ := ds_own hown (dgs_wl xs) (by rw [dgs_len]; exact hmx)
          have hB4 := hB3.trans (hb4.mono hB3.size)
          have hs4 := hs3.belowS hb4
          have hx4 := hx3.belowS hb4
          have hrx4 := hrx3.below hb4
          have hrb4 := hrb3.below hb4
          have s4 : w4.cell? ⟨sb, 0, none⟩ = some (.slice B m d) := hs4.cell 0
          have x4 : w4.cell? ⟨w.heap.size, 0, none⟩ = some (.slice A n c) := by rw [← hxb]; exact hx4.cell 0
          clear hs3 hx3 hrx3 hrb3 hB3 s3 x3 hown hb4
          go_wp2_with fail
          refine (rproveon_any (dgs xs) A4 m c4 n w4 (by omega) hn0 (by omega) hds).mono ?_
          rintro e w5 ⟨v, rfl, hown, hb5⟩
          obtain ⟨P, hP⟩ : ∃ P, P = goes (dgs xs) n true := ⟨_, rfl⟩
          have hpw : Wl (goes (dgs xs) n true) := goes_wl _ _ _ hn0 (dgs_wl xs)
          rw [← hP] at hown hgl HON hpw
          obtain ⟨A5, c5, rfl, hds5⟩ := ds_own hown hpw rfl
          obtain ⟨z, hz⟩ : ∃ z, z = P.length := ⟨_, rfl⟩
          rw [← hz] at hds5 hgl ⊢
          rw [hmx] at HON
          have hB5 := hB4.trans (hb5.mono hB4.size)
          have hs5 := hs4.belowS hb5
          have hx5 := hx4.belowS hb5
          have hrx5 := hrx4.below hb5
          have hrb5 := hrb4.below hb5
          have hT5 := hT.belowS hB5
          have s5 : w5.cell? ⟨sb, 0, none⟩ = some (.slice B m d) := hs5.cell 0
          have x5 : w5.cell? ⟨w.heap.size, 0, none⟩ = some (.slice A n c) := by rw [← hxb]; exact hx5.cell 0
          have hrw := root_w4 _ (dgs_wl l)
          clear hs4 hx4 hrx4 hrb4 hB4 s4 x4 hown hb5 hP hz hds
          go_wp2_with fail
          go_region_held3 (fun X : World => X.cell? ⟨sb, 0, none⟩ = some (.slice B m d) ∧ X.cell? ⟨w.heap.size, 0, none⟩ = some (.slice A n c)) (go_keep) (first
            | (go_at_call 40; refine (awake42_any _ ?_).mono ?_; exact hT5; rintro e w6 ⟨rfl, hb6⟩; have hB6 := hB5.drew.trans (hb6.mono hB5.size); have hs6 := hs5.drew.belowS hb6; have hx6 := hx5.drew.belowS hb6; have hrx6 := hrx5.drew.below hb6; have hrb6 := hrb5.drew.below hb6; have hds6 := hds5.drew.below hb6; have hT6 := hT.belowS hB6; have s6 : w6.cell? ⟨sb, 0, none⟩ = some (.slice B m d) := hs6.cell 0; have x6 : w6.cell? ⟨w.heap.size, 0, none⟩ = some (.slice A n c) := by rw [← hxb]; exact hx6.cell 0)
            | (go_at_call 49; have h77 := hro; refine (root_any B m d xs w7 hT7 hrb7 (by omega) hxsz).mono ?_; rintro e w8 ⟨r0, r1, r2, r3, hrr, rfl, hb8⟩; have hB8 := hB7.trans (hb8.mono hB7.size); have hs8 := hs7.belowS hb8; have hx8 := hx7.belowS hb8; have hds8 := hds7.below hb8; have s8 : w8.cell? ⟨sb, 0, none⟩ = some (.slice B m d) := hs8.cell 0; have x8 : w8.cell? ⟨w.heap.size, 0, none⟩ = some (.slice A n c) := (by rw [← hxb]; exact hx8.cell 0); have hok : onP [o0, o1, o2, o3] n m true P = ([o0, o1, o2, o3], [r0, r1, r2, r3], true) := by rw [← hro.out, ← hrr.out]; exact HON.out)
            | (go_at_call 48; refine (rcheckon_any o0 o1 o2 o3 n r0 r1 r2 r3 m P A5 z c5 w8 (by omega) hn0 (by omega) hgl hds8 how hok).mono ?_; rintro e w9 ⟨rfl, hb9⟩; have hB9 := hB8.trans (hb9.mono hB8.size); have s9 : w9.cell? ⟨sb, 0, none⟩ = some (.slice B m d) := (hs8.belowS hb9).cell 0; have x9 : w9.cell? ⟨w.heap.size, 0, none⟩ = some (.slice A n c) := by rw [← hxb]; exact (hx8.belowS hb9).cell 0)
            | (go_at_call 49; refine (root_any A n c l w6 hT6 hrx6 (by omega) hlsz).mono ?_; rintro e w7 ⟨o0, o1, o2, o3, hro, rfl, hb7⟩; have hB7 := hB6.trans (hb7.mono hB6.size); have hs7 := hs6.belowS hb7; have hx7 := hx6.belowS hb7; have hrb7 := hrb6.below hb7; have hds7 := hds6.below hb7; have hT7 := hT.belowS hB7; have s7 : w7.cell? ⟨sb, 0, none⟩ = some (.slice B m d) := hs7.cell 0; have x7 : w7.cell? ⟨w.heap.size, 0, none⟩ = some (.slice A n c) := (by rw [← hxb]; exact hx7.cell 0); have how : W4 [o0, o1, o2, o3] := by rw [← hro.out]; exact hrw))
          all_goals
            go_wp2_with fail
            go_ret
            refine ⟨?_, hB9⟩
            first | rfl | simp
    · by_cases hf1 : fewP l' 10 60
      · have hn0 : n = 0 := by
          rcases Nat.eq_zero_or_pos n with h | h
          · exact h
          · exact absurd ⟨hf1, h⟩ hf
        rw [decide_eq_true hf1]
        subst hn0
        clear hf1 hf
        go_wp2_with fail
        refine (awake42_any w2 hT2).mono ?_
        rintro e w3 ⟨rfl, hb3⟩
        have hB3 := hB2.trans (hb3.mono hB2.size)
        go_wp2_with fail
        go_ret
        exact ⟨rfl, hB3⟩
      · rw [decide_eq_false hf1]
        clear hf1 hf
        go_wp2_with fail
        refine (awake42_any w2 hT2).mono ?_
        rintro e w3 ⟨rfl, hb3⟩
        have hB3 := hB2.trans (hb3.mono hB2.size)
        go_wp2_with fail
        go_ret
        exact ⟨rfl, hB3⟩
end Go.Proofs.YtgpohndnkecbeaaDoor
