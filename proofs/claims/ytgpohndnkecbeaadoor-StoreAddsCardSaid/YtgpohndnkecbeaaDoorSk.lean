/- Contracts: slices.Equal, store.Same, ref42.Same, Few, Right. -/
import Derived.Test.YtgpohndnkecbeaaDoorSj
namespace Go.Proofs.YtgpohndnkecbeaaDoor
open Go Go.RowKit Go.Proofs.Sc
theorem below_drewN {B : Nat} {a w : World} (h : Below B a w) (n : Nat) : Below B a (w.drewN n) := ⟨h.os, h.tape, h.output, h.size, h.block⟩
theorem ds_drewN {w : World} {A : Option Addr} {n c : Nat} {l : Dl} (h : DS w A n c l) (k : Nat) : DS (w.drewN k) A n c l := ⟨h.rs, h.wl, h.len, h.cap, h.max⟩
set_option maxRecDepth 100000 in
set_option maxHeartbeats 1000000 in
theorem equal_any (A B : Option Addr) (n c m d : Nat) (l k : List ByteArray) (w : World) (hr : Rs w A n 1 (vs l)) (hq : Rs w B m 1 (vs k)) (hn : n ≤ 140737488355328) :
    Calls Tryd.prog 75 #[.slice A n c, .slice B m d] w fun e w' => e = .returned (.bool (decide (l = k))) ∧ Below w.heap.size w w' := by
  have hll := hr.slen
  have hkk := hq.slen
  by_cases hnm : n = m
  · subst hnm
    go_enter Tryd.func75, Tryd.ntmps75
    go_wp2_with fail
    go_loopw [13] (fun i wr => ListRel w n l k i wr) (fun i _ => n - (intOf i).toNat)
    case atStart => exact ⟨0, by omega, rfl, by omega, Below.refl _ _⟩
    case round =>
      obtain ⟨j, hj, rfl, heq, hB⟩ := hrel
      obtain ⟨w2, rfl⟩ : ∃ w2 : World, w2 = wr := ⟨_, rfl⟩
      by_cases hlt : j < n
      · obtain ⟨g, o, rfl, hc⟩ := (hr.below hB).str hlt
        obtain ⟨g2, o2, rfl, hc2⟩ := (hq.below hB).str hlt
        have hd : decide (j < n) = true := by simp; omega
        go_wp2_with fail
        go_region
        go_wp2_with fail
        · rename_i hx
          have hg : ¬ gs l j = gs k j := fun h => by rw [h] at hx; simp at hx
          go_ret
          exact ⟨by rw [decide_eq_false (fun h => hg (by rw [h]))]; rfl, hB.drew⟩
        · rename_i hx
          have hg : gs l j = gs k j := by
            have h : (gs l j).toList = (gs k j).toList := by simpa using hx
            rw [Lib.toList_data, Lib.toList_data] at h
            exact ByteArray.ext (Array.ext' h)
          refine ⟨⟨j + 1, by omega, by go_num, ?_, hB.drew⟩, by simp [intOf]; omega⟩
          intro i hi
          rcases Nat.lt_or_ge i j with h | h
          · exact heq i h
          · obtain rfl : i = j := by omega
            exact hg
      · obtain rfl : j = n := by omega
        go_wp2_with fail
        go_ret
        refine ⟨?_, hB⟩
        rw [decide_eq_true (list_ext_gs (by omega) (by rw [hll]; exact heq))]; rfl
  · have hne : ((n : Int) != m) = true := by simp; omega
    have hne2 : ¬ (n : Int) = m := by omega
    go_enter Tryd.func75, Tryd.ntmps75
    go_wp2_with fail
    go_ret
    refine ⟨?_, Below.refl _ _⟩
    rw [decide_eq_false (by rintro rfl; omega)]; rfl
set_option maxRecDepth 100000 in
set_option maxHeartbeats 1000000 in
theorem same_any (A B : Option Addr) (n c m d : Nat) (l k : List ByteArray) (w : World) (hr : Rs w A n 1 (vs l)) (hq : Rs w B m 1 (vs k)) (hn : n ≤ 140737488355328) :
    Calls Tryd.prog 37 #[.agg #[.slice A n c], .agg #[.slice B m d]] w fun e w' => e = .returned (.bool (decide (l = k))) ∧ Below w.heap.size w w' := by
  go_enter Tryd.func37, Tryd.ntmps37
  obtain ⟨-, -, hB0⟩ := two_alloc w #[.slice A n c] #[.slice B m d] 34 34
  go_wp2_with fail
  refine (equal_any A B n c m d l k _ (hr.below hB0) (hq.below hB0) hn).mono ?_
  rintro e w1 ⟨rfl, hb1⟩
  have hB1 := hB0.trans (hb1.mono hB0.size)
  go_wp2_with fail
  go_ret
  exact ⟨rfl, hB1⟩
def RSameRel (w : World) (n c d : Nat) (A B : Option Addr) (l k : List ByteArray) (i : Value) (wr : World) : Prop :=
  ∃ j : Nat, j ≤ n ∧ i = .int .i64 j ∧ (∀ i, i < j → gs l i = gs k i) ∧ Bx wr w.heap.size 34 #[.slice A n c] ∧ Bx wr (w.heap.size + 1) 34 #[.slice B n d] ∧ Below w.heap.size w wr
set_option maxRecDepth 100000 in
set_option maxHeartbeats 1000000 in
theorem rsame_any (A B : Option Addr) (n c m d : Nat) (l k : List ByteArray) (w : World) (hr : Rs w A n 1 (vs l)) (hq : Rs w B m 1 (vs k)) (hn : n ≤ 140737488355328) :
    Calls Tryd.prog 44 #[.agg #[.slice A n c], .agg #[.slice B m d]] w fun e w' => e = .returned (.bool (decide (l = k))) ∧ Below w.heap.size w w' := by
  have hll := hr.slen
  have hkk := hq.slen
  go_enter Tryd.func44, Tryd.ntmps44
  obtain ⟨hs0, ht0, hB0⟩ := two_alloc w #[.slice A n c] #[.slice B m d] 34 34
  by_cases hnm : n = m
  · subst hnm
    have hne : ((n : Int) != n) = false := by simp
    go_wp2_with fail
    go_loopw [5] (fun i wr => RSameRel w n c d A B l k i wr) (fun i _ => n - (intOf i).toNat)
    case atStart => exact ⟨0, by omega, rfl, by omega, hs0, ht0, hB0⟩
    case round =>
      obtain ⟨j, hj, rfl, heq, hst, htt, hB⟩ := hrel
      clear hs0 ht0 hB0
      obtain ⟨w2, rfl⟩ : ∃ w2 : World, w2 = wr := ⟨_, rfl⟩
      have s0 : w2.cell? ⟨w.heap.size, 0, none⟩ = some (.slice A n c) := hst.cell 0
      have t0 : w2.cell? ⟨w.heap.size + 1, 0, none⟩ = some (.slice B n d) := htt.cell 0
      by_cases hlt : j < n
      · obtain ⟨g, o, rfl, hc⟩ := (hr.below hB).str hlt
        obtain ⟨g2, o2, rfl, hc2⟩ := (hq.below hB).str hlt
        have hd : decide (j < n) = true := by simp; omega
        have hjn : (j : Int) < (n : Int) := by omega
        have HEQ := Lib.hid heq
        clear heq
        go_wp2_with fail
        go_quiet (fail)
        go_wp2_with fail
        · rename_i hx
          have hg : ¬ gs l j = gs k j := fun h => by rw [h] at hx; simp at hx
          go_ret
          exact ⟨by rw [decide_eq_false (fun h => hg (by rw [h]))]; rfl, below_drewN hB _⟩
        · rename_i hx
          have hg : gs l j = gs k j := by
            have h : (gs l j).toList = (gs k j).toList := by simpa using hx
            rw [Lib.toList_data, Lib.toList_data] at h
            exact ByteArray.ext (Array.ext' h)
          refine ⟨⟨j + 1, by omega, by go_num, ?_, hst.drewN _, htt.drewN _, below_drewN hB _⟩, by simp [intOf]; omega⟩
          intro i hi
          rcases Nat.lt_or_ge i j with h | h
          · exact HEQ.out i h
          · obtain rfl : i = j := by omega
            exact hg
      · obtain rfl : j = n := by omega
        have hle := list_ext_gs (l := l) (k := k) (by omega) (by rw [hll]; exact heq)
        clear heq
        go_wp2_with fail
        go_ret
        refine ⟨?_, hB⟩
        rw [decide_eq_true hle]; rfl
  · have hne : ((n : Int) != m) = true := by simp; omega
    have hne2 : ¬ (n : Int) = m := by omega
    go_wp2_with fail
    go_ret
    refine ⟨?_, hB0⟩
    rw [decide_eq_false (by rintro rfl; omega)]; rfl
def fewP (l : List ByteArray) (most bytes : Nat) : Prop := l.length ≤ most ∧ ∀ x ∈ l, x.size ≤ bytes
instance (l : List ByteArray) (m b : Nat) : Decidable (fewP l m b) := by unfold fewP; infer_instance
def FewRel (w : World) (n c most bytes : Nat) (A : Option Addr) (l : List ByteArray) (i : Value) (wr : World) : Prop :=
  ∃ k : Nat, k ≤ n ∧ k ≤ most + 1 ∧ i = .int .i64 k ∧ (∀ j, j < k → (gs l j).size ≤ bytes) ∧ Bx wr w.heap.size 34 #[.slice A n c] ∧ Below w.heap.size w wr
set_option maxRecDepth 100000 in
set_option maxHeartbeats 1000000 in
theorem few_any (A : Option Addr) (n c most bytes : Nat) (l : List ByteArray) (w : World) (hr : Rs w A n 1 (vs l)) (hn : n ≤ 140737488355328) (hm : most ≤ 1000000) (_hb : bytes ≤ 1000000) :
    Calls Tryd.prog 45 #[.agg #[.slice A n c], .int .i64 (most : Nat), .int .i64 (bytes : Nat)] w fun e w' => e = .returned (.bool (decide (fewP l most bytes))) ∧ Below w.heap.size w w' := by
  have hl := hr.slen
  go_enter Tryd.func45, Tryd.ntmps45
  have hB0 : Below w.heap.size w (w.alloc (.cells #[.slice A n c] 34)) := (Below.refl _ _).alloc (Nat.le_refl _) _
  have hs0 : Bx (w.alloc (.cells #[.slice A n c] 34)) w.heap.size 34 #[.slice A n c] := Bx.new w 34 _
  go_wp2_with fail
  go_loopw [7] (fun i wr => FewRel w n c most bytes A l i wr) (fun i _ => n - (intOf i).toNat)
  case atStart => exact ⟨0, by omega, by omega, rfl, by omega, hs0, hB0⟩
  case round =>
    obtain ⟨k, hk, hkm, rfl, hno, hst, hB⟩ := hrel
    clear hs0 hB0
    obtain ⟨w2, rfl⟩ : ∃ w2 : World, w2 = wr := ⟨_, rfl⟩
    have s0 : w2.cell? ⟨w.heap.size, 0, none⟩ = some (.slice A n c) := hst.cell 0
    have HN := Lib.hid hno
    clear hno
    by_cases hlt : k < n
    · obtain ⟨g, o, rfl, hc⟩ := (hr.below hB).str hlt
      have hd : decide (k < n) = true := by simp; omega
      by_cases hle : k ≤ most
      · have hd2 : decide (k ≤ most) = true := by simp; omega
        have hkl : k < l.length := by omega
        have hmem : gs l k ∈ l := by simp [gs, hkl]
        by_cases hbig : bytes < (gs l k).size
        · have hfin : ¬ fewP l most bytes := fun h => by have := h.2 _ hmem; omega
          obtain ⟨R, hR⟩ : ∃ R, R = gs l k := ⟨_, rfl⟩
          rw [← hR] at hc hbig
          have hd3 : decide (bytes < R.size) = true := by simp; omega
          have HF := Lib.hid hfin
          clear hR hfin hmem
          go_wp2_with fail
          go_ret
          exact ⟨by rw [decide_eq_false HF.out]; rfl, hB⟩
        · have hnext : ∀ j, j < k + 1 → (gs l j).size ≤ bytes := by
            intro j hj
            rcases Nat.lt_or_ge j k with h | h
            · exact HN.out j h
            · obtain rfl : j = k := by omega
              omega
          obtain ⟨R, hR⟩ : ∃ R, R = gs l k := ⟨_, rfl⟩
          rw [← hR] at hc hbig
          have hd3 : decide (bytes < R.size) = false := by simp; omega
          have HX := Lib.hid hnext
          clear hR hnext hmem
          go_wp2_with fail
          exact ⟨⟨k + 1, by omega, by omega, by go_num, HX.out, hst, hB⟩, by simp [intOf]; omega⟩
      · have hd2 : decide (k ≤ most) = false := by simp; omega
        have hfin : ¬ fewP l most bytes := fun h => by have := h.1; omega
        have hd3 : decide (n ≤ most) = false := by simp; omega
        have HF := Lib.hid hfin
        clear hfin
        go_wp2_with fail
        go_ret
        exact ⟨by rw [decide_eq_false HF.out]; rfl, hB⟩
    · obtain rfl : k = n := by omega
      have hd : decide (k < k) = false := by simp
      have hall : decide (fewP l most bytes) = decide (k ≤ most) := by
        have h1 : (fewP l most bytes) ↔ k ≤ most := by
          refine ⟨fun h => by have := h.1; omega, fun h => ⟨by omega, fun x hx => ?_⟩⟩
          obtain ⟨j, hj, rfl⟩ := List.getElem_of_mem hx
          have := HN.out j (by omega)
          simpa [gs, hj] using this
        simp only [h1]
      have HF := Lib.hid hall
      clear hall
      go_wp2_with fail
      go_ret
      exact ⟨by rw [HF.out]; rfl, hB⟩
def RightRel (w : World) (n c : Nat) (A : Option Addr) (l : List ByteArray) (i : Value) (wr : World) : Prop :=
  ∃ k : Nat, k ≤ n ∧ i = .int .i64 k ∧ (∀ a b, b < a → a < k → dg (gs l a) ≠ dg (gs l b)) ∧ DS wr A n c (dgs l) ∧ Below w.heap.size w wr
def RightRel2 (w : World) (n c i : Nat) (A : Option Addr) (l : List ByteArray) (v : Value) (wr : World) : Prop :=
  ∃ k : Nat, k ≤ i ∧ v = .int .i64 k ∧ (∀ b, b < k → dg (gs l i) ≠ dg (gs l b)) ∧ DS wr A n c (dgs l) ∧ Below w.heap.size w wr
set_option maxRecDepth 100000 in
set_option maxHeartbeats 1000000 in
theorem right_any (A : Option Addr) (n c : Nat) (l : List ByteArray) (w : World) (hr : Rs w A n 1 (vs l)) (hn : n ≤ 1000000) (hs : ∀ s ∈ l, s.size ≤ 1000000) :
    Calls Tryd.prog 76 #[.agg #[.slice A n c]] w fun e w' => (∃ b, e = .returned (.bool b) ∧ (b = true ↔ rightP l)) ∧ Below w.heap.size w w' := by
  have hl := hr.slen
  go_enter Tryd.func76, Tryd.ntmps76
  have hB0 : Below w.heap.size w (w.alloc (.cells #[.slice A n c] 34)) := (Below.refl _ _).alloc (Nat.le_refl _) _
  by_cases hbig : 1000 < n
  · have hbi : (1000 : Int) < (n : Int) := by omega
    have hfin : ¬ rightP l := fun h => by have := h.1; omega
    have HF := Lib.hid hfin
    clear hfin
    go_wp2_with fail
    go_ret
    exact ⟨⟨false, rfl, by simpa using HF.out⟩, hB0⟩
  have hbi : (n : Int) ≤ 1000 := by omega
  go_wp2_with fail
  refine (rdigests_any A n c l _ (hr.below hB0) hn hs).mono ?_
  rintro e w1 ⟨v, rfl, hown, hb1⟩
  have hB1 := hB0.trans (hb1.mono hB0.size)
  obtain ⟨A2, c2, rfl, hds⟩ := ds_own hown (dgs_wl l) (by rw [dgs_len]; exact hl)
  clear hown
  go_wp2_with fail
  go_loopw [4] (fun i wr => RightRel w n c2 A2 l i wr) (fun i _ => n - (intOf i).toNat)
  case atStart => exact ⟨0, by omega, rfl, by omega, hds, hB1⟩
  case round =>
    obtain ⟨i, hi, rfl, hno, hds2, hB2⟩ := hrel
    clear hds hB1 hb1
    obtain ⟨w2, rfl⟩ : ∃ w2 : World, w2 = wr := ⟨_, rfl⟩
    have HN := Lib.hid hno
    clear hno
    by_cases hlt : i < n
    · have hd : decide (i < n) = true := by simp; omega
      go_wp2_with fail
      go_loopw [5] (fun k wr => RightRel2 w n c2 i A2 l k wr) (fun k _ => i - (intOf k).toNat)
      case atStart => exact ⟨0, by omega, rfl, by omega, hds2, hB2⟩
      case round =>
        obtain ⟨k, hk, rfl, hno2, hds3, hB3⟩ := hrel
        clear hds2 hB2
        obtain ⟨w3, rfl⟩ : ∃ w3 : World, w3 = wr := ⟨_, rfl⟩
        have HN2 := Lib.hid hno2
        clear hno2
        by_cases hlt2 : k < i
        · obtain ⟨g, o, x0, x1, x2, x3, rfl, hgx, -, c0, c1, c2', c3⟩ := hds3.dig (k := i) hlt
          obtain ⟨g', o', y0, y1, y2, y3, h1, hgy, -, e0, e1, e2, e3⟩ := hds3.dig (k := k) (by omega)
          cases h1
          rw [dgs_get l i (by omega)] at hgx
          rw [dgs_get l k (by omega)] at hgy
          have hd2 : decide (k < i) = true := by simp; omega
          have hin : (i : Int) < (n : Int) := by omega
          have hkn : (k : Int) < (n : Int) := by omega
          have heq := eq_dig x0 x1 x2 x3 y0 y1 y2 y3
          obtain ⟨q, hq⟩ : ∃ q, q = decide ([x0, x1, x2, x3] = [y0, y1, y2, y3]) := ⟨_, rfl⟩
          rw [← hq, ] at heq
          have hq2 : q = true ↔ dg (gs l i) = dg (gs l k) := by rw [hq, hgx, hgy]; simp
          have HQ := Lib.hid hq2
          clear hq hq2 hgx hgy
          cases q with
          | true =>
            have hne : ¬ rightP l := fun h => h.2 i k hlt2 (by omega) (HQ.out.1 rfl)
            have HF := Lib.hid hne
            clear hne
            go_wp2_with fail
            go_quiet (fail)
            go_wp2_with fail
            go_ret
            exact ⟨⟨false, rfl, by simpa using HF.out⟩, below_drewN hB3 _⟩
          | false =>
            have hne : dg (gs l i) ≠ dg (gs l k) := fun h => by have := HQ.out.2 h; cases this
            have HF := Lib.hid hne
            clear hne
            go_wp2_with fail
            go_quiet (fail)
            go_wp2_with fail
            refine ⟨⟨k + 1, by omega, by go_num, ?_, ds_drewN hds3 _, below_drewN hB3 _⟩, by simp [intOf]; omega⟩
            intro b hb
            rcases Nat.lt_or_ge b k with h | h
            · exact HN2.out b h
            · obtain rfl : b = k := by omega
              exact HF.out
        · obtain rfl : k = i := by omega
          have hd2 : decide (k < k) = false := by simp
          have hnext : ∀ a b, b < a → a < k + 1 → dg (gs l a) ≠ dg (gs l b) := by
            intro a b hab ha
            rcases Nat.lt_or_ge a k with h | h
            · exact HN.out a b hab h
            · obtain rfl : a = k := by omega
              exact HN2.out b hab
          have HX := Lib.hid hnext
          clear hnext
          go_wp2_with fail
          exact ⟨⟨k + 1, by omega, by go_num, HX.out, hds3, hB3⟩, by simp [intOf]; omega⟩
    · obtain rfl : i = n := by omega
      have hd : decide (i < i) = false := by simp
      have hfin : rightP l := ⟨by omega, fun a b hab ha => HN.out a b hab (by omega)⟩
      have HF := Lib.hid hfin
      clear hfin
      go_wp2_with fail
      go_ret
      exact ⟨⟨true, rfl, by simpa using HF.out⟩, hB2⟩
end Go.Proofs.YtgpohndnkecbeaaDoor
