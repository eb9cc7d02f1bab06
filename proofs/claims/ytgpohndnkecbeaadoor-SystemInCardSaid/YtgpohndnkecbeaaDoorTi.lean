/- Contracts: top.texts, top.filled, head.Lost. -/
import Derived.Test.YtgpohndnkecbeaaDoorLf
import Derived.Test.YtgpohndnkecbeaaDoorLb
namespace Go.Proofs.YtgpohndnkecbeaaDoor
open Go Go.RowKit Go.Proofs.Sc
def TextsRel (w : World) (n : Nat) (l : List ByteArray) (i : Value) (wr : World) : Prop :=
  ∃ k : Nat, k ≤ n ∧ k ≤ 13 ∧ i = .int .i64 k ∧ (∀ j, j < k → (gs l j).size ≤ 300) ∧ w = wr
set_option maxRecDepth 100000 in
set_option maxHeartbeats 1000000 in
theorem texts_any (A : Option Addr) (n c : Nat) (l : List ByteArray) (w : World) (hr : Rs w A n 1 (vs l)) (hn : n ≤ 140737488355328) :
    Calls Tryd.prog 27 #[.slice A n c] w fun e w' => e = .returned (.bool (decide (fewP l 12 300))) ∧ w = w' := by
  have hl := hr.slen
  go_enter Tryd.func27, Tryd.ntmps27
  go_wp2_with fail
  go_loopw [3] (fun i wr => TextsRel w n l i wr) (fun i _ => n - (intOf i).toNat)
  case atStart => exact ⟨0, by omega, by omega, rfl, by omega, rfl⟩
  case round =>
    obtain ⟨k, hk, hkm, rfl, hno, rfl⟩ := hrel
    have HN := Lib.hid hno
    clear hno
    by_cases hlt : k < n
    · obtain ⟨g, o, rfl, hc⟩ := hr.str hlt
      have hd : decide (k < n) = true := by simp; omega
      have hkn : (k : Int) < (n : Int) := by omega
      by_cases hle : k < 13
      · have hd2 : decide ((k : Int) < 13) = true := by simp; omega
        have hkl : k < l.length := by omega
        have hmem : gs l k ∈ l := by simp [gs, hkl]
        by_cases hbig : 300 < (gs l k).size
        · have hfin : ¬ fewP l 12 300 := fun h => by have := h.2 _ hmem; omega
          obtain ⟨R, hR⟩ : ∃ R, R = gs l k := ⟨_, rfl⟩
          rw [← hR] at hc hbig
          have hd3 : decide (300 < (R.size : Int)) = true := by simp; omega
          have HF := Lib.hid hfin
          clear hR hfin hmem
          go_wp2_with fail
          go_ret
          exact ⟨by rw [decide_eq_false HF.out]; rfl, rfl⟩
        · have hnext : ∀ j, j < k + 1 → (gs l j).size ≤ 300 := by
            intro j hj
            rcases Nat.lt_or_ge j k with h | h
            · exact HN.out j h
            · obtain rfl : j = k := by omega
              omega
          obtain ⟨R, hR⟩ : ∃ R, R = gs l k := ⟨_, rfl⟩
          rw [← hR] at hc hbig
          have hd3 : decide (300 < (R.size : Int)) = false := by simp; omega
          have HX := Lib.hid hnext
          clear hR hnext hmem
          go_wp2_with fail
          exact ⟨⟨k + 1, by omega, by omega, by go_num, HX.out, rfl⟩, by simp [intOf]; omega⟩
      · have hd2 : decide ((k : Int) < 13) = false := by simp; omega
        have hfin : ¬ fewP l 12 300 := fun h => by have := h.1; omega
        have hd3 : decide ((n : Int) ≤ 12) = false := by simp; omega
        have HF := Lib.hid hfin
        clear hfin
        go_wp2_with fail
        go_ret
        exact ⟨by rw [decide_eq_false HF.out]; rfl, rfl⟩
    · obtain rfl : k = n := by omega
      have hd : decide (k < k) = false := by simp
      have hall : decide (fewP l 12 300) = decide ((k : Int) ≤ 12) := by
        have h1 : (fewP l 12 300) ↔ (k : Int) ≤ 12 := by
          refine ⟨fun h => by have := h.1; omega, fun h => ⟨by omega, fun x hx => ?_⟩⟩
          obtain ⟨j, hj, rfl⟩ := List.getElem_of_mem hx
          have := HN.out j (by omega)
          simpa [gs, hj] using this
        simp only [h1]
      have HF := Lib.hid hall
      clear hall
      go_wp2_with fail
      go_ret
      exact ⟨by rw [HF.out]; rfl, rfl⟩
theorem right_nil : rightP [] := ⟨by simp, fun i k _ h => by simp at h⟩
theorem addP_right {l : List ByteArray} {a : ByteArray} (h : rightP l) (h0 : (addP l a).2.2 = 0) : rightP (addP l a).1 := by
  rcases addP_cases l a with ⟨i, _, _, _, e⟩ | ⟨i, _, _, _, e⟩ | ⟨_, _, e⟩ | ⟨hf, hl, e⟩
  · rw [e]; exact h
  · rw [e] at h0; cases h0
  · rw [e] at h0; cases h0
  · rw [e]
    refine ⟨by simp; omega, fun i k hki hi => ?_⟩
    have hi : i < l.length + 1 := by simpa using hi
    rcases Nat.lt_or_ge i l.length with h1 | h1
    · rw [gs_app_left _ _ _ h1, gs_app_left _ _ _ (by omega)]
      exact h.2 i k hki h1
    · obtain rfl : i = l.length := by omega
      rw [gs_snoc, gs_app_left _ _ _ (by omega)]
      exact fun e => findP_none hf k (by omega) e.symm
def FillRel (w : World) (l : List ByteArray) (sb : Nat) (i : Value) (wr : World) : Prop :=
  ∃ (k : Nat) (B : Option Addr) (m d : Nat) (xs : List ByteArray), k ≤ l.length ∧ i = .int .i64 k ∧ Bx wr sb 34 #[.slice B m d] ∧ m ≤ d ∧ (B = none → d = 0) ∧ Rs wr B m 1 (vs xs) ∧ xs.length ≤ k ∧ (∀ s ∈ xs, s ∈ l) ∧ rightP xs ∧ Bx wr w.heap.size 34 #[.slice none 0 0] ∧ Below w.heap.size w wr
def FilledIs (l : List ByteArray) (w : World) (e : Ending) (w' : World) : Prop :=
  ∃ (xs : List ByteArray) (b : Bool) (A : Option Addr) (n c : Nat), e = .returned (.tuple #[.agg #[.slice A n c], .bool b]) ∧ n ≤ c ∧ (A = none → c = 0) ∧ Rs w' A n 1 (vs xs) ∧ xs.length ≤ l.length ∧ (∀ s ∈ xs, s ∈ l) ∧ rightP xs ∧ Below w.heap.size w w'
set_option maxRecDepth 100000 in
set_option maxHeartbeats 2000000 in
theorem filled_any (A : Option Addr) (n c : Nat) (l : List ByteArray) (w : World) (hT : Turns w) (hr : Rs w A n 1 (vs l)) (hn : n ≤ 12) (hsz : ∀ s ∈ l, s.size ≤ 300) :
    Calls Tryd.prog 28 #[.slice A n c] w fun e w' => FilledIs l w e w' := by
  have hl := hr.slen
  obtain ⟨hr0, hs8, hB8'⟩ := two_alloc w #[.slice none 0 0] #[.slice none 0 0] 34 34
  go_enter Tryd.func28, Tryd.ntmps28
  go_wp2_with fail
  generalize ((w.alloc (.cells #[.slice none 0 0] 34)).alloc (.cells #[.slice none 0 0] 34)) = W at hr0 hs8 hB8' ⊢
  obtain ⟨sb, hsb⟩ : ∃ sb, sb = w.heap.size + 1 := ⟨_, rfl⟩
  have hne : w.heap.size ≠ sb := by omega
  have hsw : w.heap.size ≤ sb := by omega
  rw [← hsb] at hs8 ⊢
  clear hsb
  go_loopw [5] (fun i wr => FillRel w l sb i wr) (fun i _ => n - (intOf i).toNat)
  case atStart => exact ⟨0, none, 0, 0, [], by omega, rfl, hs8, Nat.le_refl _, fun _ => rfl, Rs.nil _ _ _, by simp, by simp, right_nil, hr0, hB8'⟩
  case round =>
    obtain ⟨k, B, m, d, L, hk, rfl, hs, hmd, hBn, hrb, hLk, hLm, hLr, hx, hB⟩ := hrel
    obtain ⟨w2, rfl⟩ : ∃ w2 : World, w2 = wr := ⟨_, rfl⟩
    clear hs8 hr0 hB8'
    have s2 : w2.cell? ⟨sb, 0, none⟩ = some (.slice B m d) := hs.cell 0
    have x2 : w2.cell? ⟨w.heap.size, 0, none⟩ = some (.slice none 0 0) := hx.cell 0
    have hT2 := hT.belowS hB
    by_cases hlt : k < n
    · obtain ⟨g, o, rfl, hc⟩ := (hr.below hB).str hlt
      have hmem : gs l k ∈ l := by simp [gs, show k < l.length by omega]
      have hRs : (gs l k).size ≤ 1000000 := by have := hsz (gs l k) hmem; omega
      obtain ⟨R, hR⟩ : ∃ R, R = gs l k := ⟨_, rfl⟩
      have hLs : ∀ s ∈ L, s.size ≤ 1000000 := fun s hs => by have := hsz s (hLm s hs); omega
      rw [← hR] at hc hRs hmem
      have hmL := hrb.slen
      have hE := addP_err (l := L) (a := R) (by omega)
      have hR2 := fun h => addP_right (l := L) (a := R) hLr h
      have hM2 := fun x (h : x ∈ (addP L R).1) => addP_mem h
      have hL2 := addP_len L R
      obtain ⟨q, hq⟩ : ∃ q, q = addP L R := ⟨_, rfl⟩
      rw [← hq] at hE hR2 hM2 hL2
      obtain ⟨Lq, I, E⟩ := q
      simp only at hE hR2 hM2 hL2
      have HQ := Lib.hid hq
      have HR2 := Lib.hid hR2
      have HM2 := Lib.hid hM2
      have hd : decide (k < n) = true := by simp; omega
      have hkn : (k : Int) < (n : Int) := by omega
      clear hR hq hR2 hM2
      rcases hE with rfl | rfl
      all_goals
        go_wp2_with fail
        have ba : Below w2.heap.size w2 (w2.alloc (.cells #[.slice none 0 0] 34)).drew := ((Below.refl _ _).alloc (Nat.le_refl _) _).drew
        have hng : g ≠ w2.heap.size := Nat.ne_of_lt (World.block_lt_of_cell? w2 ⟨g, o + k, none⟩ hc)
        have hsl : w2.heap.size < (w2.alloc (.cells #[.slice none 0 0] 34)).heap.size := by simp
        have hnsb : sb ≠ w2.heap.size := by have := hs.lt; omega
        have hnxb : w.heap.size ≠ w2.heap.size := by have := hx.lt; omega
        go_region_held3 (fun X : World => X.cell? ⟨sb, 0, none⟩ = some (.slice B m d) ∧ X.cell? ⟨g, o + k, none⟩ = some (.string R)) (first | go_keep | exact ⟨S3, C3⟩) (first
          | (go_at_call 41; refine (add_any B m d L R _ ?_ ?_ (by omega) hmd hBn hLs hRs).mono ?_; (first | exact hT2 | exact hT2.belowS ba); (first | exact hrb | exact hrb.below ba); rintro e w3 ⟨A3, n3, c3, rfl, hnc3, hA3, hr3, hb3⟩; rw [← HQ.out] at hr3 ⊢; first
            | (have hb3' : Below w2.heap.size w2 w3 := (Below.refl w2.heap.size w2).drew.trans hb3; have hB3 := hB.trans (hb3'.mono hB.size); have hs3 := hs.belowS hb3'; have hx3 := hx.belowS hb3'; have hrb3 := hrb.below hb3'; have s3 : w3.cell? ⟨sb, 0, none⟩ = some (.slice B m d) := hs3.cell 0; have c3' : w3.cell? ⟨g, o + k, none⟩ = some (.string R) := (hb3'.cell (p := ⟨g, o + k, none⟩) (World.block_lt_of_cell? w2 _ hc)).trans hc)
            | (have hb3' : Below w2.heap.size w2 w3 := ba.trans (hb3.mono (Nat.le_of_lt hsl)); have hB3 := hB.trans (hb3'.mono hB.size); have hs3 := hs.belowS hb3'; have hx3 := hx.belowS hb3'; have hrb3 := hrb.below hb3'; have s3 : w3.cell? ⟨sb, 0, none⟩ = some (.slice B m d) := hs3.cell 0; have c3' : w3.cell? ⟨g, o + k, none⟩ = some (.string R) := (hb3'.cell (p := ⟨g, o + k, none⟩) (World.block_lt_of_cell? w2 _ hc)).trans hc; have hn3 : Bx w3 w2.heap.size 34 #[.slice none 0 0] := (Bx.new w2 34 #[.slice none 0 0]).drew.belowS hb3; have n3c : w3.cell? ⟨w2.heap.size, 0, none⟩ = some (.slice none 0 0) := hn3.cell 0; have f3 := hn3.frozen 0; have S3 : (w3.setCell ⟨w2.heap.size, 0, none⟩ (.slice A3 n3 c3)).cell? ⟨sb, 0, none⟩ = some (.slice B m d) := (hs3.far hnsb _).cell 0; have C3 : (w3.setCell ⟨w2.heap.size, 0, none⟩ (.slice A3 n3 c3)).cell? ⟨g, o + k, none⟩ = some (.string R) := (((Below.refl w2.heap.size w3).setCell (p := ⟨w2.heap.size, 0, none⟩) (Nat.le_refl _) (.slice A3 n3 c3)).cell (p := ⟨g, o + k, none⟩) (World.block_lt_of_cell? w2 _ hc)).trans c3')))
        all_goals
          first
            | (have hs4 := hs3.alloc (.cells #[.slice A3 n3 c3] 34)
               have hx4 := hx3.alloc (.cells #[.slice A3 n3 c3] 34)
               have hr4 := hr3.alloc (.cells #[.slice A3 n3 c3] 34)
               have hrb4 := hrb3.alloc (.cells #[.slice A3 n3 c3] 34)
               have hn4 : Bx (w3.alloc (.cells #[.slice A3 n3 c3] 34)) w3.heap.size 34 #[.slice A3 n3 c3] := Bx.new _ _ _
               have hB4 := hB3.alloc hB3.size (.cells #[.slice A3 n3 c3] 34)
               generalize w3.alloc (.cells #[.slice A3 n3 c3] 34) = w4 at hs4 hx4 hr4 hrb4 hn4 hB4 ⊢
               obtain ⟨nb, hnb⟩ : ∃ nb, nb = w3.heap.size := ⟨_, rfl⟩
               rw [← hnb] at hn4 ⊢)
            | (have hs4 := hs3.far (p := ⟨w2.heap.size, 0, none⟩) hnsb (.slice A3 n3 c3)
               have hx4 := hx3.far (p := ⟨w2.heap.size, 0, none⟩) hnxb (.slice A3 n3 c3)
               have hr4 := rs_apart hr3 hn3 (.slice A3 n3 c3)
               have hrb4 := rs_apart hrb3 hn3 (.slice A3 n3 c3)
               have hn4 : Bx (w3.setCell ⟨w2.heap.size, 0, none⟩ (.slice A3 n3 c3)) w2.heap.size 34 #[.slice A3 n3 c3] := hn3.set 0 _
               have hzz : w.heap.size ≤ (⟨w2.heap.size, 0, none⟩ : Addr).block := hB.size
               have hB4 := hB3.setCell hzz (.slice A3 n3 c3)
               generalize w3.setCell ⟨w2.heap.size, 0, none⟩ (.slice A3 n3 c3) = w4 at hs4 hx4 hr4 hrb4 hn4 hB4 ⊢
               obtain ⟨nb, hnb⟩ : ∃ nb, nb = w2.heap.size := ⟨_, rfl⟩
               rw [← hnb] at hn4 ⊢)
          have n4c : w4.cell? ⟨nb, 0, none⟩ = some (.slice A3 n3 c3) := hn4.cell 0
          have s4 : w4.cell? ⟨sb, 0, none⟩ = some (.slice B m d) := hs4.cell 0
          have f4 := hs4.frozen 0
          clear hs3 hx3 hr3 hrb3 hB3 s3 c3' hnb hb3 hb3' hs hx hrb hB s2 x2 hT2 ba hsl
          have x4 : w4.cell? ⟨w.heap.size, 0, none⟩ = some (.slice none 0 0) := hx4.cell 0
          have y4 := hx4.frozen 0
          go_wp2_with fail
          first
            | (have hfin : Bx (w4.setCell ⟨w.heap.size, 0, none⟩ (.slice B m d)) w.heap.size 34 #[.slice B m d] := hx4.set 0 _
               refine bodyPost_ret (v := .tuple #[.agg #[.slice B m d], .bool false]) (results_row2 rfl _ _ w.heap.size 34 _ (0, 0) _ rfl rfl hfin Tryd.underlying34 rfl (by kernel_rfl)) rfl ⟨L, false, B, m, d, rfl, hmd, hBn, rs_apart hrb4 hx4 _, by omega, hLm, hLr, hB4.setCell (Nat.le_refl _) _⟩)
            | exact ⟨⟨k + 1, A3, n3, c3, Lq, by omega, by go_num, hs4.set 0 _, hnc3, hA3, rs_apart hr4 hs4 _, by omega, fun s hs => (HM2.out s hs).elim (hLm s) (fun h => h ▸ hmem), HR2.out (by first | trivial | rfl), hx4.far hne _, hB4.setCell hsw _⟩, by simp [intOf]; omega⟩
    · obtain rfl : k = n := by omega
      have hd : decide (k < k) = false := by simp
      have y2 := hx.frozen 0
      clear hlt
      go_wp2_with fail
      have hfin : Bx (w2.setCell ⟨w.heap.size, 0, none⟩ (.slice B m d)) w.heap.size 34 #[.slice B m d] := hx.set 0 _
      exact bodyPost_ret (v := .tuple #[.agg #[.slice B m d], .bool true]) (results_row2 rfl _ _ w.heap.size 34 _ (0, 0) _ rfl rfl hfin Tryd.underlying34 rfl (by kernel_rfl)) rfl ⟨L, true, B, m, d, rfl, hmd, hBn, rs_apart hrb hx _, by omega, hLm, hLr, hB.setCell (Nat.le_refl _) _⟩
end Go.Proofs.YtgpohndnkecbeaaDoor
