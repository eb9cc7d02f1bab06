/- The law StoreTwice, walked. -/
import Derived.Test.YtgpohndnkecbeaaDoorLc
import Derived.Test.YtgpohndnkecbeaaDoorPi
import Derived.Test.YtgpohndnkecbeaaDoorPj
namespace Go.Proofs.YtgpohndnkecbeaaDoor
open Go Go.RowKit Go.Proofs.Sc
/-- A cell that holds a slice is no string: what a slice of strings reads stays, whatever is put there. -/
theorem rs_apart {w : World} {A : Option Addr} {n sb : Nat} {l : List ByteArray} {t : TypeId} {B : Option Addr} {m d : Nat} (h : Rs w A n 1 (vs l)) (hb : Bx w sb t #[.slice B m d]) (u : Value) : Rs (w.setCell ⟨sb, 0, none⟩ u) A n 1 (vs l) := by
  rcases Nat.eq_zero_or_pos n with h0 | h0
  · subst h0
    exact ⟨h.1, fun h => absurd h (by omega)⟩
  · obtain ⟨g, o, e, hc⟩ := h.str h0
    refine rs_far h (fun a ha => ?_) u
    rw [e] at ha
    cases ha
    intro hg
    have hg : g = sb := hg
    subst hg
    rw [Nat.add_zero, hb.cell] at hc
    rcases Nat.eq_zero_or_pos o with ho | ho
    · subst ho; simp at hc
    · rw [Array.getElem?_eq_none (by simp; omega)] at hc; cases hc
theorem adds_next {l : List ByteArray} {k : Nat} (hk : k < l.length) (s : List ByteArray) : addsP s (l.take (k + 1)) = if (addP (addsP s (l.take k)) (gs l k)).2.2 = 0 then (addP (addsP s (l.take k)) (gs l k)).1 else addsP s (l.take k) := by
  have e : l.take (k + 1) = l.take k ++ [gs l k] := by
    rw [List.take_succ_eq_append_getElem hk]; simp [gs, hk]
  rw [e, addsP_snoc]
def TwiceRel (w : World) (X : Option Addr) (xn xc xb : Nat) (xl l s : List ByteArray) (sb : Nat) (i : Value) (wr : World) : Prop :=
  ∃ (k : Nat) (B : Option Addr) (m d : Nat), k ≤ l.length ∧ i = .int .i64 k ∧ Bx wr sb 34 #[.slice B m d] ∧ m ≤ d ∧ (B = none → d = 0) ∧ Rs wr B m 1 (vs (addsP s (l.take k))) ∧ Bx wr xb 34 #[.slice X xn xc] ∧ Rs wr X xn 1 (vs xl) ∧ Below w.heap.size w wr
set_option maxRecDepth 100000 in
set_option maxHeartbeats 1000000 in
theorem twice_any (A : Option Addr) (n c : Nat) (l : List ByteArray) (w : World) (hT : Turns w) (_hnc : n ≤ c) (_hA : A = none → c = 0) (hn : n ≤ 8796093022208) (hr : Rs w A n 1 (vs l)) (_hs : ∀ s ∈ l, s.size ≤ 140737488355328) :
    Calls Tryd.prog 19 #[.slice A n c] w fun e w' => e = .returned (.bool true) ∧ Below w.heap.size w w' := by
  have hl := hr.slen
  clear _hs _hA _hnc
  go_enter Tryd.func19, Tryd.ntmps19
  go_wp2_with fail
  refine (few_any A n c 20 60 l w hr (by omega) (by omega) (by omega)).mono ?_
  rintro e w1 ⟨rfl, hB1⟩
  have hT1 := hT.belowS hB1
  have hr1 := hr.below hB1
  by_cases hf : fewP l 20 60
  · rw [decide_eq_true hf]
    have hn20 : n ≤ 20 := by have := hf.1; omega
    have hsz : ∀ s ∈ l, s.size ≤ 60 := hf.2
    have htot : total (lsts l) ≤ 1600 := by
      have h1 := few_total hf.2
      change total (lsts l) ≤ _ at h1
      have h2 : l.length * (20 + 60) ≤ 20 * 80 := Nat.mul_le_mul (by omega) (by omega)
      omega
    have hsml := small_len hf
    clear hf
    have b0 : Below w1.heap.size w1 (w1.alloc (.cells #[] 9)) := (Below.refl _ _).alloc (Nat.le_refl _) _
    have hbs := run_empty w1
    go_wp2_with (first | (at_builtin; refine ap_rs 22 9 _ 1 16 Tryd.underlying22 infoStr rfl (by decide) (by decide) rfl _ _ rfl w1.heap.size _ 0 _ rfl (own_empty w1 9 1) A n c (vs l) rfl (hr1.below b0) (vs_one l) (by omega) (by simp) ?_; intro v4 w4 hown4 hg4 hat4; have hb4 : Below w1.heap.size w1 w4 := b0.grown hg4 (by simp) (own_base (own_empty w1 9 1)); have hr4 : Rs w4 A n 1 (vs l) := hr1.below hb4; have hsz4 : w1.heap.size ≤ w4.heap.size := hb4.size) | (at_builtin; refine ap_rs 22 9 _ 1 16 Tryd.underlying22 infoStr rfl (by decide) (by decide) rfl _ _ rfl w1.heap.size v4 (0 + n) _ rfl hown4 A n c (vs l) rfl hr4 (vs_one l) (by omega) (by omega) ?_; intro v5 w5 hown5 hg5 hat5; obtain ⟨A5, c5, rfl⟩ := own_slice hown5))
    have hb5 : Below w1.heap.size w1 w5 := hb4.grown hg5 hsz4 (own_base hown4)
    have hB5 := hB1.trans (hb5.mono hB1.size)
    have hr5 : Rs w5 A5 (n + n) 1 (vs (l ++ l)) := by have := Rs.of_own hown5; rwa [Nat.zero_add, List.nil_append, ← vs_app] at this
    have hmap : lsts (l ++ l) = lsts l ++ lsts l := lsts_app l l
    have htl2 : total (lsts (l ++ l)) ≤ 800000 := by rw [hmap, total_app]; omega
    have hsm2 : ∀ r ∈ lsts (l ++ l), r.length < 4294967296 := by
      intro r hr
      rw [hmap] at hr
      rcases List.mem_append.1 hr with h | h <;> exact hsml r h
    have hput := rput_any A5 (n + n) c5 (l ++ l) w5 (by omega) hr5 htl2
    refine hput.mono ?_
    obtain ⟨p, hp⟩ : ∃ p : ByteArray, p = ⟨(putB ((l ++ l).map fun r => r.data.toList)).toArray⟩ := ⟨_, rfl⟩
    have hpl : p.data.toList = putB (lsts (l ++ l)) := by rw [hp]; simp [lsts]
    have hps : p.size = total (lsts (l ++ l)) := by
      have := putB_len (lsts (l ++ l))
      rw [← hpl, size_list] at this
      exact this
    have hp16 : p.size ≤ 800000 := by rw [hps]; exact htl2
    rw [← hp]
    rintro e w6 ⟨rfl, hb6⟩
    have hB6 := hB5.trans (hb6.mono hB5.size)
    have hT6 := hT.belowS hB6
    have hll : l.length ≤ 20 := by omega
    have HPL := Lib.hid hpl
    have HPS := Lib.hid hps
    have HM := Lib.hid hsm2
    clear hp hpl hps hput hr5 hown5 hg5 hat5 hown4 hg4 hat4 hr4 hsz4 hb4 hb5 hb6 hB5 hT1 hr1 b0 hmap hbs hsm2 hB1 htl2 htot
    go_wp2_with fail
    refine (open_any p w6 hT6 (by omega)).mono ?_
    rintro e w7 ⟨rs, X, xn, xc, hrs, rfl, hxc, hX, hrx, hb7⟩
    have hrl : rs = l ++ l := by
      apply lsts_inj
      show lsts rs = lsts (l ++ l)
      rw [hrs, HPL.out]
      exact reads_all _ 1000 (by rw [lsts_len, List.length_append]; omega) HM.out
    rw [twice_open hll hsz hrl] at hrx
    have hz : p.size - total (lsts rs) = 0 := by rw [HPS.out, hrl]; omega
    rw [hz]
    have hB7 := hB6.trans (hb7.mono hB6.size)
    obtain ⟨xl, hxl⟩ : ∃ xl, xl = addsP [] l := ⟨_, rfl⟩
    rw [← hxl] at hrx
    have hxn : xn ≤ 20 := by
      have h1 := hrx.slen
      have h2 := addsP_len [] l
      rw [← hxl] at h2
      simp at h2
      omega
    have HXL := Lib.hid hxl
    obtain ⟨hx8, hs8, hB8⟩ := two_alloc w7 #[.slice X xn xc] #[.slice none 0 0] 34 34
    have hrx8 := hrx.below hB8
    have hB8' := hB7.trans (hB8.mono hB7.size)
    have hszw := hB7.size
    clear hxl hrs hrl hz hb7 hrx hB7 hB6 hT6 hB8 hX hxc
    go_wp2_with fail
    generalize ((w7.alloc (.cells #[.slice X xn xc] 34)).alloc (.cells #[.slice none 0 0] 34)) = W at hx8 hs8 hrx8 hB8' ⊢
    obtain ⟨xb, hxb⟩ : ∃ xb, xb = w7.heap.size := ⟨_, rfl⟩
    rw [← hxb] at hx8 hs8 ⊢
    obtain ⟨sb, hsb⟩ : ∃ sb, sb = xb + 1 := ⟨_, rfl⟩
    have hne : xb ≠ sb := by omega
    have hsw : w.heap.size ≤ sb := by omega
    rw [← hsb] at hs8 ⊢
    clear hxb hsb hszw
    go_loopw [8] (fun i wr => TwiceRel w X xn xc xb xl l [] sb i wr) (fun i _ => n - (intOf i).toNat)
    case atStart => exact ⟨0, none, 0, 0, by omega, rfl, hs8, Nat.le_refl _, fun _ => rfl, Rs.nil _ _ _, hx8, hrx8, hB8'⟩
    case round =>
      obtain ⟨k, B, m, d, hk, rfl, hs, hmd, hBn, hrb, hx, hrx, hB⟩ := hrel
      obtain ⟨w2, rfl⟩ : ∃ w2 : World, w2 = wr := ⟨_, rfl⟩
      clear hx8 hs8 hrx8 hB8'
      have s2 : w2.cell? ⟨sb, 0, none⟩ = some (.slice B m d) := hs.cell 0
      have hT2 := hT.belowS hB
      by_cases hlt : k < n
      · obtain ⟨g, o, rfl, hc⟩ := (hr.below hB).str hlt
        have hRs : (gs l k).size ≤ 1000000 := by have := hsz (gs l k) (by simp [gs, show k < l.length by omega]); omega
        have hnx := adds_next (l := l) (k := k) (by omega) []
        obtain ⟨L, hL⟩ : ∃ L, L = addsP [] (l.take k) := ⟨_, rfl⟩
        obtain ⟨R, hR⟩ : ∃ R, R = gs l k := ⟨_, rfl⟩
        have hLn : L.length ≤ 20 := by
          have h2 := addsP_len [] (l.take k)
          rw [← hL, List.length_take] at h2
          simp at h2
          omega
        have hLs : ∀ s ∈ L, s.size ≤ 1000000 := by
          intro s hs
          rw [hL] at hs
          rcases addsP_mem hs with h | h
          · cases h
          · have := hsz s (List.mem_of_mem_take h); omega
        rw [← hL, ← hR] at hnx
        rw [← hL] at hrb
        rw [← hR] at hc hRs
        have hmL := hrb.slen
        have hE := addP_err (l := L) (a := R) (by omega)
        obtain ⟨q, hq⟩ : ∃ q, q = addP L R := ⟨_, rfl⟩
        rw [← hq] at hE hnx
        obtain ⟨Lq, I, E⟩ := q
        simp only at hE hnx
        have HQ := Lib.hid hq
        have HN := Lib.hid hnx
        have hd : decide (k < n) = true := by simp; omega
        have hkn : (k : Int) < (n : Int) := by omega
        clear hL hR hq hnx
        rcases hE with rfl | rfl
        all_goals
          go_wp2_with fail
          have ba : Below w2.heap.size w2 (w2.alloc (.cells #[.slice none 0 0] 34)).drew := ((Below.refl _ _).alloc (Nat.le_refl _) _).drew
          have hng : g ≠ w2.heap.size := Nat.ne_of_lt (World.block_lt_of_cell? w2 ⟨g, o + k, none⟩ hc)
          have hsl : w2.heap.size < (w2.alloc (.cells #[.slice none 0 0] 34)).heap.size := by simp
          have hnsb : sb ≠ w2.heap.size := by have := hs.lt; omega
          have hnxb : xb ≠ w2.heap.size := by have := hx.lt; omega
          go_region_held3 (fun X : World => X.cell? ⟨sb, 0, none⟩ = some (.slice B m d) ∧ X.cell? ⟨g, o + k, none⟩ = some (.string R)) (first | go_keep | exact ⟨S3, C3⟩) (first
            | (go_at_call 41; refine (add_any B m d L R _ ?_ ?_ (by omega) hmd hBn hLs hRs).mono ?_; (first | exact hT2 | exact hT2.belowS ba); (first | exact hrb | exact hrb.below ba); rintro e w3 ⟨A3, n3, c3, rfl, hnc3, hA3, hr3, hb3⟩; rw [← HQ.out] at hr3 ⊢; first
              | (have hb3' : Below w2.heap.size w2 w3 := (Below.refl w2.heap.size w2).drew.trans hb3; have hB3 := hB.trans (hb3'.mono hB.size); have hs3 := hs.belowS hb3'; have hx3 := hx.belowS hb3'; have hrx3 := hrx.below hb3'; have hrb3 := hrb.below hb3'; have s3 : w3.cell? ⟨sb, 0, none⟩ = some (.slice B m d) := hs3.cell 0; have c3' : w3.cell? ⟨g, o + k, none⟩ = some (.string R) := (hb3'.cell (p := ⟨g, o + k, none⟩) (World.block_lt_of_cell? w2 _ hc)).trans hc)
              | (have hb3' : Below w2.heap.size w2 w3 := ba.trans (hb3.mono (Nat.le_of_lt hsl)); have hB3 := hB.trans (hb3'.mono hB.size); have hs3 := hs.belowS hb3'; have hx3 := hx.belowS hb3'; have hrx3 := hrx.below hb3'; have hrb3 := hrb.below hb3'; have s3 : w3.cell? ⟨sb, 0, none⟩ = some (.slice B m d) := hs3.cell 0; have c3' : w3.cell? ⟨g, o + k, none⟩ = some (.string R) := (hb3'.cell (p := ⟨g, o + k, none⟩) (World.block_lt_of_cell? w2 _ hc)).trans hc; have hn3 : Bx w3 w2.heap.size 34 #[.slice none 0 0] := (Bx.new w2 34 #[.slice none 0 0]).drew.belowS hb3; have n3c : w3.cell? ⟨w2.heap.size, 0, none⟩ = some (.slice none 0 0) := hn3.cell 0; have f3 := hn3.frozen 0; have S3 : (w3.setCell ⟨w2.heap.size, 0, none⟩ (.slice A3 n3 c3)).cell? ⟨sb, 0, none⟩ = some (.slice B m d) := (hs3.far hnsb _).cell 0; have C3 : (w3.setCell ⟨w2.heap.size, 0, none⟩ (.slice A3 n3 c3)).cell? ⟨g, o + k, none⟩ = some (.string R) := (((Below.refl w2.heap.size w3).setCell (p := ⟨w2.heap.size, 0, none⟩) (Nat.le_refl _) (.slice A3 n3 c3)).cell (p := ⟨g, o + k, none⟩) (World.block_lt_of_cell? w2 _ hc)).trans c3')))
          all_goals
            first
              | (have hs4 := hs3.alloc (.cells #[.slice A3 n3 c3] 34)
                 have hx4 := hx3.alloc (.cells #[.slice A3 n3 c3] 34)
                 have hrx4 := hrx3.alloc (.cells #[.slice A3 n3 c3] 34)
                 have hr4 := hr3.alloc (.cells #[.slice A3 n3 c3] 34)
                 have hrb4 := hrb3.alloc (.cells #[.slice A3 n3 c3] 34)
                 have hn4 : Bx (w3.alloc (.cells #[.slice A3 n3 c3] 34)) w3.heap.size 34 #[.slice A3 n3 c3] := Bx.new _ _ _
                 have hB4 := hB3.alloc hB3.size (.cells #[.slice A3 n3 c3] 34)
                 generalize w3.alloc (.cells #[.slice A3 n3 c3] 34) = w4 at hs4 hx4 hrx4 hr4 hrb4 hn4 hB4 ⊢
                 obtain ⟨nb, hnb⟩ : ∃ nb, nb = w3.heap.size := ⟨_, rfl⟩
                 rw [← hnb] at hn4 ⊢)
              | (have hs4 := hs3.far (p := ⟨w2.heap.size, 0, none⟩) hnsb (.slice A3 n3 c3)
                 have hx4 := hx3.far (p := ⟨w2.heap.size, 0, none⟩) hnxb (.slice A3 n3 c3)
                 have hrx4 := rs_apart hrx3 hn3 (.slice A3 n3 c3)
                 have hr4 := rs_apart hr3 hn3 (.slice A3 n3 c3)
                 have hrb4 := rs_apart hrb3 hn3 (.slice A3 n3 c3)
                 have hn4 : Bx (w3.setCell ⟨w2.heap.size, 0, none⟩ (.slice A3 n3 c3)) w2.heap.size 34 #[.slice A3 n3 c3] := hn3.set 0 _
                 have hzz : w.heap.size ≤ (⟨w2.heap.size, 0, none⟩ : Addr).block := hB.size
                 have hB4 := hB3.setCell hzz (.slice A3 n3 c3)
                 generalize w3.setCell ⟨w2.heap.size, 0, none⟩ (.slice A3 n3 c3) = w4 at hs4 hx4 hrx4 hr4 hrb4 hn4 hB4 ⊢
                 obtain ⟨nb, hnb⟩ : ∃ nb, nb = w2.heap.size := ⟨_, rfl⟩
                 rw [← hnb] at hn4 ⊢)
            have n4c : w4.cell? ⟨nb, 0, none⟩ = some (.slice A3 n3 c3) := hn4.cell 0
            have s4 : w4.cell? ⟨sb, 0, none⟩ = some (.slice B m d) := hs4.cell 0
            have f4 := hs4.frozen 0
            clear hs3 hx3 hrx3 hr3 hrb3 hB3 s3 c3' hnb hb3 hb3' hs hx hrx hrb hB s2 hT2 ba hsl
            go_wp2_with fail
            first
              | exact ⟨⟨k + 1, A3, n3, c3, by omega, by go_num, hs4.set 0 _, hnc3, hA3, by rw [HN.out]; exact rs_apart hr4 hs4 _, hx4.far hne _, rs_apart hrx4 hs4 _, hB4.setCell hsw _⟩, by simp [intOf]; omega⟩
              | exact ⟨⟨k + 1, B, m, d, by omega, by go_num, hs4, hmd, hBn, by rw [HN.out]; exact hrb4, hx4, hrx4, hB4⟩, by simp [intOf]; omega⟩
      · obtain rfl : k = n := by omega
        rw [List.take_of_length_le (by omega), ← HXL.out] at hrb
        have hd : decide (k < k) = false := by simp
        clear hlt
        go_wp2_with fail
        refine (awake42_any w2 hT2).mono ?_
        rintro e w3 ⟨rfl, hb3⟩
        have hB3 := hB.trans (hb3.mono hB.size)
        have hs3 := hs.belowS hb3
        have hx3 := hx.belowS hb3
        have hrx3 := hrx.below hb3
        have hrb3 := hrb.below hb3
        have s3 : w3.cell? ⟨sb, 0, none⟩ = some (.slice B m d) := hs3.cell 0
        have x3 : w3.cell? ⟨xb, 0, none⟩ = some (.slice X xn xc) := hx3.cell 0
        clear hs hx hrx hrb hB s2 hT2 hb3
        go_wp2_with fail
        refine (same_any X B xn xc m d xl xl w3 hrx3 hrb3 (by omega)).mono ?_
        rintro e w4 ⟨rfl, hb4⟩
        rw [decide_eq_true rfl]
        have hB4 := hB3.trans (hb4.mono hB3.size)
        go_wp2_with fail
        go_ret
        refine ⟨?_, hB4⟩
        first | rfl | simp
  · rw [decide_eq_false hf]
    go_wp2_with fail
    refine (awake42_any w1 hT1).mono ?_
    rintro e w2 ⟨rfl, hb2⟩
    have hB2 := hB1.trans (hb2.mono hB1.size)
    go_wp2_with fail
    go_ret
    exact ⟨rfl, hB2⟩
end Go.Proofs.YtgpohndnkecbeaaDoor
