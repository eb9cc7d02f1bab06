/- Contracts: law42.small, law42.awake. -/
import Derived.Test.YtgpohndnkecbeaaDoorSk
namespace Go.Proofs.YtgpohndnkecbeaaDoor
open Go Go.RowKit Go.Proofs.Sc
set_option maxRecDepth 100000 in
set_option maxHeartbeats 1000000 in
theorem small_any (A : Option Addr) (n c : Nat) (l : List ByteArray) (w : World) (hr : Rs w A n 1 (vs l)) (hn : n ≤ 140737488355328) :
    Calls Tryd.prog 39 #[.agg #[.slice A n c]] w fun e w' => (∃ b, e = .returned (.bool b) ∧ (b = true ↔ fewP l 20 60 ∧ rightP l)) ∧ Below w.heap.size w w' := by
  have hl := hr.slen
  go_enter Tryd.func39, Tryd.ntmps39
  go_wp2_with fail
  have hB0 : Below w.heap.size w (w.alloc (.cells #[.slice A n c] 34)) := (Below.refl _ _).alloc (Nat.le_refl _) _
  refine (few_any A n c 20 60 l _ (hr.below hB0) hn (by omega) (by omega)).mono ?_
  rintro e w1 ⟨rfl, hb0⟩
  have hb1 := hB0.trans (hb0.mono hB0.size)
  have hs1 : Bx w1 w.heap.size 34 #[.slice A n c] := (Bx.new w 34 _).belowS hb0
  have s1 : w1.cell? ⟨w.heap.size, 0, none⟩ = some (.slice A n c) := hs1.cell 0
  clear hb0
  by_cases hf : fewP l 20 60
  · rw [decide_eq_true hf]
    have hn20 : n ≤ 1000000 := by have := hf.1; omega
    have hsz : ∀ s ∈ l, s.size ≤ 1000000 := fun s h => by have := hf.2 s h; omega
    have HF := Lib.hid hf
    clear hf
    go_wp2_with fail
    refine (right_any A n c l w1 (hr.below hb1) hn20 hsz).mono ?_
    rintro e w2 ⟨⟨b, rfl, hb⟩, hb2⟩
    have hB2 := hb1.trans (hb2.mono hb1.size)
    have HB := Lib.hid hb
    clear hb
    go_wp2_with fail
    go_ret
    exact ⟨⟨b, rfl, by rw [HB.out]; exact ⟨fun h => ⟨HF.out, h⟩, fun h => h.2⟩⟩, hB2⟩
  · rw [decide_eq_false hf]
    have HF := Lib.hid hf
    clear hf
    go_wp2_with fail
    go_ret
    exact ⟨⟨false, rfl, ⟨fun h => (nomatch h), fun h => absurd h.1 HF.out⟩⟩, hb1⟩
theorem get_zero (A : Option Addr) (n c : Nat) (l : List ByteArray) (w : World) (hT : Turns w) (hr : Rs w A n 1 (vs l)) (hn : n ≤ 1000000) (hs : ∀ s ∈ l, s.size ≤ 1000000) :
    Calls Tryd.prog 30 #[.agg #[.slice A n c], .agg #[.int .u32 0, .int .u32 0, .int .u32 0, .int .u32 0]] w fun e w' => e = .returned (.tuple #[.string (getP l [0, 0, 0, 0]).1, .int .i64 (getP l [0, 0, 0, 0]).2]) ∧ Below w.heap.size w w' :=
  get_any A n c l 0 0 0 0 w hT hr hn hs
/-- A head's size, a head's root. -/
theorem head_size (n z0 z1 z2 z3 : Int) (W : World) : (Instr.field 46 (.agg #[.int .i64 n, .int .u32 z0, .int .u32 z1, .int .u32 z2, .int .u32 z3]) 0).run Tryd.prog W = .ok (.int .i64 n) W := by kernel_rfl
theorem head_root (n z0 z1 z2 z3 : Int) (W : World) : (Instr.field 46 (.agg #[.int .i64 n, .int .u32 z0, .int .u32 z1, .int .u32 z2, .int .u32 z3]) 1).run Tryd.prog W = .ok (.agg #[.int .u32 z0, .int .u32 z1, .int .u32 z2, .int .u32 z3]) W := by kernel_rfl
theorem dg_ab : dg ⟨#[97, 98]⟩ ≠ [0, 0, 0, 0] := by
  show dig [97, 98] ≠ _
  decide +kernel
set_option maxRecDepth 100000 in
set_option maxHeartbeats 2000000 in
theorem awake42_any (w : World) (hT : Turns w) :
    Calls Tryd.prog 40 #[] w fun e w' => e = .returned (.bool true) ∧ Below w.heap.size w w' := by
  go_enter Tryd.func40, Tryd.ntmps40
  go_wp2_with fail
  obtain ⟨ab, hab⟩ : ∃ ab : ByteArray, ab = ⟨#[97, 98]⟩ := ⟨_, rfl⟩
  have hadd : addP [] ab = ([ab], 0, 0) := rfl
  have hdne : dg ab ≠ [0, 0, 0, 0] := by rw [hab]; exact dg_ab
  have hsz : ab.size ≤ 1000000 := by rw [hab]; decide
  have hszs : ∀ s ∈ [ab], s.size ≤ 1000000 := fun s h => by rw [List.mem_singleton.1 h]; exact hsz
  have habl : (ab.toList == [97, 98]) = true := by rw [hab, Lib.toList_data]; decide
  rw [← hab]
  refine (add_any none 0 0 [] ab w hT (Rs.nil _ _ _) (by omega) (by omega) (fun _ => rfl) (by simp) hsz).mono ?_
  rintro e w1 ⟨A1, n1, c1, rfl, hnc1, hA1, hr1, hb1⟩
  rw [hadd] at hr1 ⊢
  obtain rfl : n1 = 1 := hr1.slen.symm
  have hT1 := hT.belowS hb1
  have HN := Lib.hid hdne
  have HAB := Lib.hid hab
  clear hadd hdne
  have hab2 : getP [ab] (dg ab) = (ab, 0) := by
    have : findP [ab] (dg ab) = some 0 := by rw [findP, if_pos rfl]
    rw [getP, this]; rfl
  have hz2 : getP [ab] [0, 0, 0, 0] = (ByteArray.empty, 6) := by
    have : findP [ab] [0, 0, 0, 0] = none := by rw [findP, if_neg HN.out]; rfl
    rw [getP, this]
  have HG := Lib.hid hab2
  have HZ := Lib.hid hz2
  clear hab2 hz2
  go_wp2_with fail
  have hs0 : Bx (w1.alloc (.cells #[.slice A1 1 c1] 34)) w1.heap.size 34 #[.slice A1 1 c1] := Bx.new w1 34 _
  have hB0 : Below w.heap.size w (w1.alloc (.cells #[.slice A1 1 c1] 34)) := hb1.alloc hb1.size _
  have hr0 : Rs (w1.alloc (.cells #[.slice A1 1 c1] 34)) A1 1 1 (vs [ab]) := hr1.alloc _
  generalize (w1.alloc (.cells #[.slice A1 1 c1] 34)) = W at hs0 hB0 hr0 ⊢
  obtain ⟨b, hb⟩ : ∃ b, b = w1.heap.size := ⟨_, rfl⟩
  rw [← hb] at hs0 ⊢
  rw [← HAB.out]
  have hTW := hT.belowS hB0
  have s0 : W.cell? ⟨b, 0, none⟩ = some (.slice A1 1 c1) := hs0.cell 0
  clear hT1 hr1 hb1 hb hab
  go_region_held3 (fun X : World => X.cell? ⟨b, 0, none⟩ = some (.slice A1 1 c1)) (go_keep) (first
    | (go_at_call 54; refine (rof_dg ab _ hsz).mono ?_; rintro e w2 ⟨d0, d1, d2, d3, hd, rfl, hb2⟩; have hB2 := hB0.drew.trans (hb2.mono hB0.size); have hs2 := hs0.drew.belowS hb2; have s2 : w2.cell? ⟨b, 0, none⟩ = some (.slice A1 1 c1) := hs2.cell 0; have hr2 := hr0.drew.below hb2; have hT2 := hT.belowS hB2)
    | (go_at_call 30; refine (get_any A1 1 c1 [ab] d0 d1 d2 d3 _ ?_ ?_ (by omega) hszs).mono ?_; exact hT2; exact hr2; rintro e w3 ⟨rfl, hb3⟩; rw [← hd.out, HG.out]; have hB3 := hB2.trans (hb3.mono hB2.size); have hs3 := hs2.belowS hb3; have s3 : w3.cell? ⟨b, 0, none⟩ = some (.slice A1 1 c1) := hs3.cell 0; have hr3 := hr2.below hb3; have hT3 := hT.belowS hB3))
  all_goals
    clear s0 s2 hs0 hs2 hr0 hr2 hT2 hTW hb2 hb3
    go_wp2_with fail
    refine (get_zero A1 1 c1 [ab] w3 hT3 hr3 (by omega) hszs).mono ?_
    rintro e w4 ⟨rfl, hb4⟩
    rw [HZ.out]
    have hB4 := hB3.trans (hb4.mono hB3.size)
    have hs4 := hs3.belowS hb4
    have s4 : w4.cell? ⟨b, 0, none⟩ = some (.slice A1 1 c1) := hs4.cell 0
    have hr4 := hr3.below hb4
    have hT4 := hT.belowS hB4
    clear hs3 s3 hr3 hT3 hb4
    go_wp2_with fail
    refine (root_any none 0 0 [] w4 hT4 (Rs.nil _ _ _) (by omega) (by simp)).mono ?_
    rintro e w5 ⟨x0, x1, x2, x3, hx, rfl, hb5⟩
    have hB5 := hB4.trans (hb5.mono hB4.size)
    have hs5 := hs4.belowS hb5
    have s5 : w5.cell? ⟨b, 0, none⟩ = some (.slice A1 1 c1) := hs5.cell 0
    have hr5 := hr4.below hb5
    clear hs4 s4 hr4 hT4 hb5
    go_wp2_with fail
    refine (rof_dg ⟨#[]⟩ w5 (by decide)).mono ?_
    rintro e w6 ⟨y0, y1, y2, y3, hy, rfl, hb6⟩
    have hB6 := hB5.trans (hb6.mono hB5.size)
    have hs6 := hs5.belowS hb6
    have s6 : w6.cell? ⟨b, 0, none⟩ = some (.slice A1 1 c1) := hs6.cell 0
    have hr6 := hr5.below hb6
    have hT6 := hT.belowS hB6
    have hxy : [x0, x1, x2, x3] = [y0, y1, y2, y3] := by
      rw [← hx.out, ← hy.out]
      show root [] = _
      rw [root_nil]; rfl
    simp only [List.cons.injEq, and_true] at hxy
    obtain ⟨rfl, rfl, rfl, rfl⟩ := hxy
    have heq := eq_dig x0 x1 x2 x3 x0 x1 x2 x3
    rw [decide_eq_true rfl] at heq
    clear hs5 s5 hr5 hb6
    go_wp2_with fail
    refine (head_any A1 1 c1 [ab] w6 hT6 hr6 (by omega) hszs).mono ?_
    rintro e w7 ⟨z0, z1, z2, z3, hz, rfl, hb7⟩
    have hB7 := hB6.trans (hb7.mono hB6.size)
    clear heq hs6 s6 hr6 hT6 hb7
    have hfl := head_size 1 z0 z1 z2 z3
    go_wp2_with fail
    go_ret
    exact ⟨rfl, hB7⟩
end Go.Proofs.YtgpohndnkecbeaaDoor
