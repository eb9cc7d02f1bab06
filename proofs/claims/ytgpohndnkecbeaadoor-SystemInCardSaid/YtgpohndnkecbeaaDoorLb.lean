/- The law StoreProves, walked. -/
import Derived.Test.YtgpohndnkecbeaaDoorLa
import Derived.Laws.StructEq
namespace Go.Proofs.YtgpohndnkecbeaaDoor
open Go Go.RowKit Go.Proofs.Sc
theorem eq_dig' (d : Nat) (d0 d1 d2 d3 e0 e1 e2 e3 : Nat) (w : World) :
    (Op.equalIn (d + 2) 39 (.agg #[.int .u32 d0, .int .u32 d1, .int .u32 d2, .int .u32 d3]) (.agg #[.int .u32 e0, .int .u32 e1, .int .u32 e2, .int .u32 e3])).run Tryd.prog w = .ok (decide ([d0, d1, d2, d3] = [e0, e1, e2, e3])) w := by
  obtain ⟨i, hi, -⟩ := info_parts infoWord
  rw [run_equalIn_array w (d + 1) (n := 4) _ _ Tryd.underlying39 hi]
  have hc : Tryd.prog.cellsOf 37 = 1 := by kernel_rfl
  simp [Op.eqItems, List.range_succ, hc, go_sem]
  by_cases h0 : d0 = e0 <;> by_cases h1 : d1 = e1 <;> by_cases h2 : d2 = e2 <;> by_cases h3 : d3 = e3 <;> simp [h0, h1, h2, h3, Int.natCast_inj]
theorem eq_head (n m d0 d1 d2 d3 e0 e1 e2 e3 : Nat) (w : World) :
    (Op.equalIn 10000 46 (.agg #[.int .i64 n, .int .u32 d0, .int .u32 d1, .int .u32 d2, .int .u32 d3]) (.agg #[.int .i64 m, .int .u32 e0, .int .u32 e1, .int .u32 e2, .int .u32 e3])).run Tryd.prog w = .ok (decide (n = m) && decide ([d0, d1, d2, d3] = [e0, e1, e2, e3])) w := by
  rw [run_equalIn_struct w 9999 46 _ _ (by kernel_rfl) (by kernel_rfl)]
  have hf : ∃ f g, (Tryd.prog.fieldsOf 46).toList = [f, g] ∧ f.type = 3 ∧ f.offset = 0 ∧ g.type = 39 ∧ g.offset = 1 ∧ f.name ≠ "_" ∧ g.name ≠ "_" := by
    simp only [Program.fieldsOf, Tryd.underlying46]
    exact ⟨_, _, rfl, rfl, rfl, rfl, rfl, by decide, by decide⟩
  obtain ⟨f, g, hfg, f1, f2, g1, g2, f3, g3⟩ := hf
  rw [hfg]
  have hq := eq_dig' 9997 d0 d1 d2 d3 e0 e1 e2 e3 w
  simp only [Op.eqFields, f1, f2, g1, g2, f3, g3, ne_eq, not_false_eq_true, if_true]
  have p39 : ∀ a b c d e : Value, (part 39 #[a, b, c, d, e] 1).run Tryd.prog w = .ok (.agg #[b, c, d, e]) w := by
    intro a b c d e
    have hc : Tryd.prog.cellsOf 39 = 4 := by kernel_rfl
    simp [part, go_sem]
  have p3 : ∀ (x : Int) (b c d e : Value), (part 3 #[.int .i64 x, b, c, d, e] 0).run Tryd.prog w = .ok (.int .i64 x) w := by
    intro a b c d e
    have hc : Tryd.prog.cellsOf 3 = 1 := by kernel_rfl
    simp [part, go_sem]
  have h3 : (Op.equalIn 9999 3 (.int .i64 n) (.int .i64 m)).run Tryd.prog w = .ok (decide (n = m)) w := by
    simp [go_sem]
    by_cases h : n = m <;> simp [h, Int.natCast_inj]
  simp only [Sem.run_bind, p3, h3, Result.andThen_ok]
  have hq' : (Op.equalIn 9999 39 (.agg #[.int .u32 d0, .int .u32 d1, .int .u32 d2, .int .u32 d3]) (.agg #[.int .u32 e0, .int .u32 e1, .int .u32 e2, .int .u32 e3])).run Tryd.prog w = .ok (decide ([d0, d1, d2, d3] = [e0, e1, e2, e3])) w := hq
  by_cases h : n = m
  · rw [decide_eq_true h]
    simp only [Bool.not_true, Bool.false_eq_true, if_false, Sem.run_bind, p39, hq', Result.andThen_ok, Bool.true_and]
    cases decide ([d0, d1, d2, d3] = [e0, e1, e2, e3]) <;> simp
  · rw [decide_eq_false h]
    simp
def DigRel (w : World) (m : Nat) (A B : Option Addr) (c c' : Nat) (p : Dl) (sc : Nat) (cs : Array Value) (i : Value) (wr : World) : Prop :=
  ∃ k : Nat, k ≤ m ∧ i = .int .i64 k ∧ DS wr A m c p ∧ DS wr B m c' p ∧ Bx wr sc 34 cs ∧ Below w.heap.size w wr
set_option maxRecDepth 100000 in
set_option maxHeartbeats 1000000 in
theorem proves_any (A : Option Addr) (n c : Nat) (l : List ByteArray) (d0 d1 d2 d3 : Nat) (w : World) (hT : Turns w) (_hnc : n ≤ c) (_hA : A = none → c = 0) (hn : n ≤ 140737488355328) (hr : Rs w A n 1 (vs l)) :
    Calls Tryd.prog 15 #[.agg #[.slice A n c], .agg #[.int .u32 d0, .int .u32 d1, .int .u32 d2, .int .u32 d3]] w fun e w' => e = .returned (.bool true) ∧ Below w.heap.size w w' := by
  have hl := hr.slen
  go_enter Tryd.func15, Tryd.ntmps15
  obtain ⟨hs0, hd0, hB0⟩ := two_alloc w #[.slice A n c] (wds [d0, d1, d2, d3]) 34 39
  go_wp2_with fail
  refine (small_any A n c l _ (hr.below hB0) hn).mono ?_
  rintro e w1 ⟨⟨b, rfl, hb⟩, hb1⟩
  have hB1 := hB0.trans (hb1.mono hB0.size)
  have hs1 := hs0.belowS hb1
  have hd1 := hd0.belowS hb1
  have hT1 := hT.belowS hB1
  have hr1 := hr.below hB1
  have s1 : w1.cell? ⟨w.heap.size, 0, none⟩ = some (.slice A n c) := hs1.cell 0
  obtain ⟨k0, k1, k2, k3⟩ := hd1.w4c
  clear hs0 hd0 hb1
  cases b with
  | false =>
    clear hb
    go_wp2_with fail
    refine (awake42_any w1 hT1).mono ?_
    rintro e w2 ⟨rfl, hb2⟩
    have hB2 := hB1.trans (hb2.mono hB1.size)
    go_wp2_with fail
    go_ret
    exact ⟨rfl, hB2⟩
  | true =>
    obtain ⟨hf, hri⟩ := hb.1 rfl
    have hn20 : n ≤ 100000 := by have := hf.1; omega
    have hn6 : n ≤ 1000000 := by omega
    have hsz : ∀ s ∈ l, s.size ≤ 1000000 := fun s h => by have := hf.2 s h; omega
    clear hb hf hri
    go_wp2_with fail
    refine (sprove_any A n c l d0 d1 d2 d3 w1 hT1 hr1 hn6 hsz).mono ?_
    rintro e w2 ⟨v, rfl, hown, hb2⟩
    obtain ⟨p, hp⟩ : ∃ p, p = proveP l [d0, d1, d2, d3] := ⟨_, rfl⟩
    have hpw : Wl (proveP l [d0, d1, d2, d3]).2.1 := by
      unfold proveP
      split
      · exact way_wl _ _ (dgs_wl l)
      · intro d hd; cases hd
    have hpl : (proveP l [d0, d1, d2, d3]).2.1.length ≤ 1000000 := by
      unfold proveP
      split
      · have := way_len (dgs l) ‹_›
        rw [dgs_len] at this
        show (way _ _).length ≤ _
        omega
      · exact Nat.zero_le _
    rw [← hp] at hown hpw hpl ⊢
    have HP := Lib.hid hp
    obtain ⟨A2, c2, rfl, hds⟩ := ds_own hown hpw rfl
    have hB2 := hB1.trans (hb2.mono hB1.size)
    have hs2 := hs1.belowS hb2
    have hd2 := hd1.belowS hb2
    have s2 : w2.cell? ⟨w.heap.size, 0, none⟩ = some (.slice A n c) := hs2.cell 0
    obtain ⟨j0, j1, j2, j3⟩ := hd2.w4c
    have hr2 := hr.below hB2
    clear hp s1 hs1 hd1 hr1 hT1 hb2 k0 k1 k2 k3 hown
    go_wp2_with fail
    refine (rsprove_any A n c l d0 d1 d2 d3 w2 hr2 hn6 hsz).mono ?_
    rintro e w3 ⟨v3, rfl, hown3, hb3⟩
    rw [← HP.out] at hown3 ⊢
    obtain ⟨A3, c3, rfl, hds3⟩ := ds_own hown3 hpw rfl
    have hx3 := hds.below hb3
    have hB3 := hB2.trans (hb3.mono hB2.size)
    have hs3 := hs2.belowS hb3
    clear s2 hs2 hd2 hr2 hb3 hown3 j0 j1 j2 j3 hds
    obtain ⟨m, hm⟩ : ∃ m, m = p.2.1.length := ⟨_, rfl⟩
    rw [← hm] at hds3 hx3 hpl ⊢
    clear hm
    go_wp2_with fail
    go_loopw [11] (fun i wr => DigRel w m A2 A3 c2 c3 p.2.1 w.heap.size #[.slice A n c] i wr) (fun i _ => m - (intOf i).toNat)
    case atStart => exact ⟨0, by omega, rfl, hx3, hds3, hs3, hB3⟩
    case round =>
      obtain ⟨k, hk, rfl, hx4, hy4, hs4, hB4⟩ := hrel
      clear hx3 hds3 hs3 hB3
      obtain ⟨w4, rfl⟩ : ∃ w4 : World, w4 = wr := ⟨_, rfl⟩
      by_cases hlt : k < m
      · obtain ⟨g, o, x0, x1, x2, x3, rfl, hgx, -, e0, e1, e2, e3⟩ := hx4.dig (k := k) hlt
        obtain ⟨g', o', y0, y1, y2, y3, rfl, hgy, -, f0, f1, f2, f3⟩ := hy4.dig (k := k) hlt
        rw [hgx] at hgy
        simp only [List.cons.injEq, and_true] at hgy
        obtain ⟨rfl, rfl, rfl, rfl⟩ := hgy
        clear hgx
        have hd2 : decide (k < m) = true := by simp; omega
        have hin : (k : Int) < (m : Int) := by omega
        have heq := eq_dig x0 x1 x2 x3 x0 x1 x2 x3
        rw [decide_eq_true rfl] at heq
        go_wp2_with fail
        go_region
        go_wp2_with fail
        exact ⟨⟨k + 1, by omega, by go_num, hx4.drew, hy4.drew, hs4.drew, hB4.drew⟩, by simp [intOf]; omega⟩
      · obtain rfl : k = m := by omega
        have hr4 := hr.below hB4
        have hT4 := hT.belowS hB4
        have s4 : w4.cell? ⟨w.heap.size, 0, none⟩ = some (.slice A n c) := hs4.cell 0
        clear hx4 hy4 hlt
        go_wp2_with fail
        go_region_held3 (fun X : World => X.cell? ⟨w.heap.size, 0, none⟩ = some (.slice A n c)) (go_keep) (first
          | (go_at_call 40; refine (awake42_any _ ?_).mono ?_; exact hT4; rintro e w5 ⟨rfl, hb5⟩; have hB5 := hB4.drew.trans (hb5.mono hB4.size); have hr5 := hr4.drew.below hb5; have hs5 := hs4.drew.belowS hb5; have hT5 := (show Turns w4.drew from hT4).belowS hb5; have s5 : w5.cell? ⟨w.heap.size, 0, none⟩ = some (.slice A n c) := hs5.cell 0)
          | (go_at_call 49; refine (root_any A n c l w5 hT5 hr5 hn6 hsz).mono ?_; rintro e w6 ⟨x0, x1, x2, x3, hx, rfl, hb6⟩; have hB6 := hB5.trans (hb6.mono hB5.size); have hr6 := hr5.below hb6; have hs6 := hs5.belowS hb6; have hT6 := hT5.belowS hb6; have s6 : w6.cell? ⟨w.heap.size, 0, none⟩ = some (.slice A n c) := hs6.cell 0)
          | (go_at_call 52; refine (rsroot_any A n c l w6 hr6 hn6 hsz).mono ?_; rintro e w7 ⟨y0, y1, y2, y3, hy, rfl, hb7⟩; have hxy : [x0, x1, x2, x3] = [y0, y1, y2, y3] := by { rw [← hx.out, ← hy.out] }; simp only [List.cons.injEq, and_true] at hxy; obtain ⟨rfl, rfl, rfl, rfl⟩ := hxy; have heq := eq_dig x0 x1 x2 x3 x0 x1 x2 x3; rw [decide_eq_true rfl] at heq; have hB7 := hB6.trans (hb7.mono hB6.size); have hr7 := hr6.below hb7; have hs7 := hs6.belowS hb7; have hT7 := hT6.belowS hb7; have s7 : w7.cell? ⟨w.heap.size, 0, none⟩ = some (.slice A n c) := hs7.cell 0)
          | (go_at_call 32; refine (head_any A n c l w7 hT7 hr7 hn6 hsz).mono ?_; rintro e w8 ⟨u0, u1, u2, u3, hu, rfl, hb8⟩; have hB8 := hB7.trans (hb8.mono hB7.size); have hr8 := hr7.below hb8; have hs8 := hs7.belowS hb8; have s8 : w8.cell? ⟨w.heap.size, 0, none⟩ = some (.slice A n c) := hs8.cell 0)
          | (go_at_call 53; refine (rhead_any A n c l w8 hr8 hn6 hsz).mono ?_; rintro e w9 ⟨v0, v1, v2, v3, hv, rfl, hb9⟩; have hxy2 : [u0, u1, u2, u3] = [v0, v1, v2, v3] := by { rw [← hu.out, ← hv.out] }; simp only [List.cons.injEq, and_true] at hxy2; obtain ⟨rfl, rfl, rfl, rfl⟩ := hxy2; have heq2 := eq_head n n u0 u1 u2 u3 u0 u1 u2 u3; rw [decide_eq_true rfl, decide_eq_true rfl] at heq2; have hB9 := hB8.trans (hb9.mono hB8.size); have s9 : w9.cell? ⟨w.heap.size, 0, none⟩ = some (.slice A n c) := (hs8.belowS hb9).cell 0))
        all_goals
          go_wp2_with fail
          go_ret
          exact ⟨rfl, hB9⟩
end Go.Proofs.YtgpohndnkecbeaaDoor
