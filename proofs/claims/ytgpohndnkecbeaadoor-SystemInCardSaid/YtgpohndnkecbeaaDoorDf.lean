/- Contract: digest.take. -/
import Derived.Test.YtgpohndnkecbeaaDoorDc
import Derived.Test.YtgpohndnkecbeaaDoorDd
import Derived.Laws.Cover3
namespace Go.Proofs.YtgpohndnkecbeaaDoor
open Go Go.RowKit Go.Proofs.Sc
theorem wds8 (a b c d e f g h : Nat) : wds [a, b, c, d, e, f, g, h] = #[.int .u32 a, .int .u32 b, .int .u32 c, .int .u32 d, .int .u32 e, .int .u32 f, .int .u32 g, .int .u32 h] := rfl
/-- Mix, eight words written out. -/
theorem mix_lit (x0 x1 x2 x3 x4 x5 x6 x7 : Nat) (w : World) (hT : Turns w) (hS : W8 [x0, x1, x2, x3, x4, x5, x6, x7]) :
    Calls Tryd.prog 95 #[.agg #[.int .u32 x0, .int .u32 x1, .int .u32 x2, .int .u32 x3, .int .u32 x4, .int .u32 x5, .int .u32 x6, .int .u32 x7]] w fun e w' =>
      ∃ y0 y1 y2 y3 y4 y5 y6 y7 : Nat, Hid (mix [x0, x1, x2, x3, x4, x5, x6, x7] = [y0, y1, y2, y3, y4, y5, y6, y7]) ∧
      e = .returned (.agg #[.int .u32 y0, .int .u32 y1, .int .u32 y2, .int .u32 y3, .int .u32 y4, .int .u32 y5, .int .u32 y6, .int .u32 y7]) ∧ Below w.heap.size w w' := by
  obtain ⟨y0, y1, y2, y3, y4, y5, y6, y7, hm, -⟩ := (mix_w8 hS).form
  refine (mix_any _ w hT hS).mono fun e w' ⟨he, hb⟩ => ⟨y0, y1, y2, y3, y4, y5, y6, y7, hm, ?_, hb⟩
  rw [he, hm]; rfl
/-- A slice's length, off its value. -/
def slLen : Value → Nat
  | .slice _ n _ => n
  | _ => 0
def TakeRel (w : World) (f : Nat) (xs : List Nat) (u : Value) (wr : World) : Prop :=
  ∃ (A : Option Addr) (m c : Nat) (rest S : List Nat), u = .slice A m c ∧ m ≤ c ∧ c ≤ 9223372036854775807 ∧ m % 4 = 0 ∧ Rs w A m 1 (vw rest) ∧ takeB [f, 0, 0, 0, 0, 0, 0, 0] xs = takeB S rest ∧ W8 S ∧ (∀ x ∈ rest, x < 4294967296) ∧
      Bx wr w.heap.size 39 (wds [0, 0, 0, 0]) ∧ Bx wr (w.heap.size + 1) 113 (wds S) ∧ Below w.heap.size w wr
set_option maxRecDepth 100000 in
set_option maxHeartbeats 1000000 in
theorem take_any (f : Nat) (A : Option Addr) (n c : Nat) (xs : List Nat) (w : World) (hT : Turns w) (hf : f < 4294967296) (h : Rs w A n 1 (vw xs)) (hx : ∀ x ∈ xs, x < 4294967296) (h4 : n % 4 = 0) (hc : n ≤ c) (hc2 : c ≤ 9223372036854775807) :
    Calls Tryd.prog 66 #[.int .u32 f, .slice A n c] w fun e w' => e = .returned (.agg (wds (takeW f xs))) ∧ Below w.heap.size w w' := by
  have hT0 := hT.lt
  have hxl := h.wlen
  go_enter Tryd.func66, Tryd.ntmps66
  go_wp2_with fail
  go_loopw [1] (fun u wr => TakeRel w f xs u wr)
    (fun u _ => slLen u)
  case atStart =>
    refine ⟨A, n, c, xs, _, rfl, hc, hc2, h4, h, rfl, ⟨rfl, by simp [hf]⟩, hx, (Bx.new w 39 _).alloc _, ?_, ((Below.refl _ _).alloc (Nat.le_refl _) _).alloc (by simp) _⟩
    rw [← World.size_alloc]; exact Bx.new _ 113 _
  case round =>
    obtain ⟨A2, m, c2, rest, S, rfl, hmc, hc3, hm4, hr, ht, hS, hrx, hb0, hb1, hB⟩ := hrel
    have HT := Lib.hid ht
    have HX := Lib.hid hrx
    clear ht hrx
    obtain ⟨w2, rfl⟩ : ∃ w2 : World, w2 = wr := ⟨_, rfl⟩
    have hT2 := hT.below hB hT0
    have hrl := hr.wlen
    by_cases hlt : 4 ≤ m
    · obtain ⟨a0, a1, a2, a3, rest', rfl⟩ : ∃ a b c d l, rest = a :: b :: c :: d :: l := by
        match rest, hrl with
        | [], e => simp at e; omega
        | [_], e => simp at e; omega
        | [_, _], e => simp at e; omega
        | [_, _, _], e => simp at e; omega
        | a :: b :: c :: d :: l, _ => exact ⟨a, b, c, d, l, rfl⟩
      obtain ⟨g, o, rfl, hcell⟩ := hr.2 (by omega)
      have HC := Lib.hid hcell
      have hrd := hr.drop (k := 4)
      clear hcell
      have h8 : decide ((4 : Int) ≤ (m : Int)) = true := by simp; omega
      have hbl : ∀ x ∈ [a0, a1, a2, a3], x < 4294967296 := fun x hx => HX.out x (by simp only [List.mem_cons, List.not_mem_nil, or_false] at hx ⊢; rcases hx with rfl | rfl | rfl | rfl <;> simp)
      go_wp2_with fail
      go_loopw [16] (fun i wr => ∃ k : Nat, k ≤ 4 ∧ i = .int .i64 k ∧ Bx wr (w.heap.size + 1) 113 (wds (xk S [a0, a1, a2, a3] k)) ∧ Bx wr w.heap.size 39 (wds [0, 0, 0, 0]) ∧ Below w.heap.size w wr)
        (fun i _ => 4 - (intOf i).toNat)
      case atStart => exact ⟨0, by omega, rfl, by rw [xk_zero _ hS.1]; exact hb1, hb0, hB⟩
      case round =>
        obtain ⟨k, hk, rfl, hb2, hb02, hB2⟩ := hrel
        clear hb1 hb0 hB
        obtain ⟨w3, rfl⟩ : ∃ w3 : World, w3 = wr := ⟨_, rfl⟩
        by_cases hk4 : k < 4
        · have c0 : w3.cell? ⟨g, o + k, none⟩ = some (.int .u32 (gw [a0, a1, a2, a3] k : Nat)) := by
            have hcu : ∀ u, (vw (a0 :: a1 :: a2 :: a3 :: rest'))[k]? = some u → w3.cell? ⟨g, o + k, none⟩ = some u := fun u hu => by
              have := HC.out k u hu
              exact (hB2.cell (World.block_lt_of_cell? w _ this)).trans this
            refine hcu _ ?_
            match k, hk4 with
            | 0, _ => rfl
            | 1, _ => rfl
            | 2, _ => rfl
            | 3, _ => rfl
          have c1 := hb2.word k (by rw [xk_len]; omega)
          rw [gw_xk _ _ _ _ (by omega), if_neg (by omega)] at c1
          have f1 := hb2.frozen k
          have hk4' : decide ((k : Int) < 4) = true := by simp; omega
          have xo := u32_xor_nat (gw S k) (gw [a0, a1, a2, a3] k) (hS.lt k) (gw_lt hbl k)
          go_wp2_with fail
          refine ⟨⟨k + 1, by omega, by go_num, ?_, ?_, ?_⟩, by simp [intOf]; omega⟩
          · have := hb2.setw k (gw S k ^^^ gw [a0, a1, a2, a3] k)
            rw [xk_succ _ _ _ (by omega)] at this
            exact this
          · exact hb02.far (p := ⟨w.heap.size + 1, k, none⟩) (by simp) _
          · exact hB2.setCell (p := ⟨w.heap.size + 1, k, none⟩) (by simp) _
        · obtain rfl : k = 4 := by omega
          have hxw := xk_w8 hS hbl 4
          obtain ⟨z0, z1, z2, z3, z4, z5, z6, z7, hz, -⟩ := hxw.form
          rw [hz] at hb2 hxw
          have HZ := Lib.hid hz
          clear hz hrd
          have hT3 := hT.below hB2 hT0
          have d0 : w3.cell? ⟨w.heap.size + 1, 0, none⟩ = some (.int .u32 z0) := hb2.cell 0
          have d1 : w3.cell? ⟨w.heap.size + 1, 1, none⟩ = some (.int .u32 z1) := hb2.cell 1
          have d2 : w3.cell? ⟨w.heap.size + 1, 2, none⟩ = some (.int .u32 z2) := hb2.cell 2
          have d3 : w3.cell? ⟨w.heap.size + 1, 3, none⟩ = some (.int .u32 z3) := hb2.cell 3
          have d4 : w3.cell? ⟨w.heap.size + 1, 4, none⟩ = some (.int .u32 z4) := hb2.cell 4
          have d5 : w3.cell? ⟨w.heap.size + 1, 5, none⟩ = some (.int .u32 z5) := hb2.cell 5
          have d6 : w3.cell? ⟨w.heap.size + 1, 6, none⟩ = some (.int .u32 z6) := hb2.cell 6
          have d7 : w3.cell? ⟨w.heap.size + 1, 7, none⟩ = some (.int .u32 z7) := hb2.cell 7
          have hm4' : (4 : Int) ≤ (m : Int) := by omega
          have hmc' : (m : Int) ≤ (c2 : Int) := by omega
          clear h8
          go_wp2_with fail
          by_cases hcc : c2 = 4
          · subst hcc
            obtain rfl : m = 4 := by omega
            go_region_with (first | (go_at_call 95; refine (mix_lit z0 z1 z2 z3 z4 z5 z6 z7 _ ?_ hxw).mono ?_; exact hT3; rintro e w4 ⟨y0, y1, y2, y3, y4, y5, y6, y7, hy, rfl, hB4⟩; obtain ⟨k0, k1, k2, k3, k4, k5, k6, k7⟩ := (hb2.drew.belowS hB4).w8c; obtain ⟨f0, f1, f2, f3, f4, f5, f6, f7⟩ := (hb2.drew.belowS hB4).w8f))
            go_wp2_with fail
            have hq8 := mix_w8 hxw
            rw [hy] at hq8
            go_simp
            go_roundw
            case measure => simp [slLen]
            refine ⟨some ⟨g, o, none⟩, 0, 0, rest', [y0, y1, y2, y3, y4, y5, y6, y7], rfl, by omega, by omega, by omega, ?_, ?_, hq8, fun x hx => HX.out x (by simp [hx]), ?_, ?_, ?_⟩
            · refine ⟨by rw [vw_len]; simp only [List.length_cons] at hrl; omega, fun hpos => ⟨g, _, rfl, fun j u hu => ?_⟩⟩
              have hu2 : (vw (a0 :: a1 :: a2 :: a3 :: rest'))[4 + j]? = some u := by rw [Nat.add_comm]; exact hu
              have := HC.out (4 + j) u hu2
              rw [← Nat.add_assoc] at this
              omega
            · rw [HT.out, takeB, blk, HZ.out, hy]
            · exact (hb02.drew.belowS hB4).far8 (by simp) _ _ _ _ _ _ _ _
            · exact (hb2.drew.belowS hB4).set8 _ _ _ _ _ _ _ _
            · exact below_set8 (hB2.drew.trans (hB4.mono hB2.size)) (by simp) _ _ _ _ _ _ _ _
          · have hcc' : ¬ (c2 : Int) = 4 := by omega
            go_region_with (first | (go_at_call 95; refine (mix_lit z0 z1 z2 z3 z4 z5 z6 z7 _ ?_ hxw).mono ?_; exact hT3; rintro e w4 ⟨y0, y1, y2, y3, y4, y5, y6, y7, hy, rfl, hB4⟩; obtain ⟨k0, k1, k2, k3, k4, k5, k6, k7⟩ := (hb2.drew.belowS hB4).w8c; obtain ⟨f0, f1, f2, f3, f4, f5, f6, f7⟩ := (hb2.drew.belowS hB4).w8f))
            go_wp2_with fail
            have hq8 := mix_w8 hxw
            rw [hy] at hq8
            go_simp
            go_roundw
            case measure => simp [slLen]; omega
            refine ⟨some ⟨g, o + 4, none⟩, m - 4, c2 - 4, rest', [y0, y1, y2, y3, y4, y5, y6, y7], rfl, by omega, by omega, by omega, ?_, ?_, hq8, fun x hx => HX.out x (by simp [hx]), ?_, ?_, ?_⟩
            · refine ⟨by rw [vw_len]; simp only [List.length_cons] at hrl; omega, fun hpos => ⟨g, _, rfl, fun j u hu => ?_⟩⟩
              have hu2 : (vw (a0 :: a1 :: a2 :: a3 :: rest'))[4 + j]? = some u := by rw [Nat.add_comm]; exact hu
              have := HC.out (4 + j) u hu2
              rw [← Nat.add_assoc] at this
              exact this
            · rw [HT.out, takeB, blk, HZ.out, hy]
            · exact (hb02.drew.belowS hB4).far8 (by simp) _ _ _ _ _ _ _ _
            · exact (hb2.drew.belowS hB4).set8 _ _ _ _ _ _ _ _
            · exact below_set8 (hB2.drew.trans (hB4.mono hB2.size)) (by simp) _ _ _ _ _ _ _ _
    · obtain rfl : m = 0 := by omega
      obtain ⟨z0, z1, z2, z3, z4, z5, z6, z7, rfl, -⟩ := hS.form
      obtain ⟨k0, k1, k2, k3, k4, k5, k6, k7⟩ := hb1.w8c
      obtain ⟨q0, q1, q2, q3⟩ := hb0.w4c
      obtain ⟨f0, f1, f2, f3⟩ := hb0.w4f
      have hrn : rest = [] := List.eq_nil_of_length_eq_zero (by omega)
      subst hrn
      have har : ∀ (W : World) (q : Option Addr), (Instr.arrayAt 39 (.slice q 4 8)).run Tryd.prog W = .ok (.pointer q) W := fun W q => run_arrayAt (P := Tryd.prog) (w := W) 39 37 4 q 4 8 Tryd.underlying39 (by decide)
      go_wp2_with fail
      have hfin := hb0.set4 z0 z1 z2 z3
      refine bodyPost_ret (v := .agg (wds [z0, z1, z2, z3])) (results_cell_row rfl _ _ w.heap.size 39 _ (0, 0) _ rfl hfin Tryd.underlying39 rfl (by kernel_rfl)) rfl ⟨?_, ?_⟩
      · rw [takeW, HT.out, takeB]
        · rfl
        · intro a b c d l e; cases e
      · exact below_set4 hB (Nat.le_refl _) _ _ _ _
end Go.Proofs.YtgpohndnkecbeaaDoor
