/- Contract: ref42.Add. -/
import Derived.Test.YtgpohndnkecbeaaDoorSi
import Derived.Test.YtgpohndnkecbeaaDoorKc
import Derived.Deep.RegionHeldLaw
import Derived.Deep.Onto
namespace Go.Proofs.YtgpohndnkecbeaaDoor
open Go Go.RowKit Go.Proofs.Sc
/-- append of what another slice holds, as a step of a region. -/
theorem step_ap_rs {P : Program} {W : World} {ops : Array Oper} {o : Oper} {a : Act} {K : Act → World → Prop} {Q : Exit → Act → World → Prop} {E : Prop} (t e : TypeId) (z : Value) (size bytes : Nat)
    (hT : P.underlying t = some (.slice e)) (hI : (P.info? e).map (fun i => (i.zero, i.size, i.bytes)) = some (some z, size, bytes)) (hzs : z.cells.size = size) (hsz : 0 < size) (hb0 : 0 < bytes)
    (hgd : o.guard = none) (s x : Operand) (ho : o.op = .call { callee := .builtin .append, args := #[s, x], argTypes := #[t, t] })
    (base : Nat) (v : Value) (n : Nat) (xs : List Value) (hs : a.eval s = v) (hown : W.ownsRow base e size v n xs)
    (A : Option Addr) (m c : Nat) (ys : List Value) (hx : a.eval x = .slice A m c) (hr : Rs W A m size ys) (h1 : ∀ u ∈ ys, u.oneCell' = true)
    (hb : (n + m) * bytes ≤ 140737488355328) (hbase : base ≤ W.heap.size)
    (h : ∀ v' w', w'.ownsRow base e size v' (n + m) (xs ++ ys) → W.grownBy w' v.ownBlock → (v'.ownBlock = v.ownBlock ∨ v'.ownBlock = some W.heap.size) → K (a.put o.dst v') w') :
    if Region.wanted o (yielded ops a.tmps) = true then Oper.wp P o a W K Q else E := by
  have hw : Region.wanted o (yielded ops a.tmps) = true := by simp [Region.wanted, hgd]
  rw [if_pos hw]
  obtain ⟨i0, hi, hz0, hz1, hz2⟩ := info_parts hI
  have hlen : n + m ≤ 140737488355328 := Nat.le_trans (Nat.le_mul_of_pos_right _ hb0) hb
  rcases A with _ | ad
  · have hm : m = 0 := by
      rcases Nat.eq_zero_or_pos m with h0 | h0
      · exact h0
      · obtain ⟨g, o, h, _⟩ := hr.2 h0
        cases h
    subst hm
    have hn : ys = [] := List.eq_nil_of_length_eq_zero (by simpa using hr.1)
    subst hn
    unfold Oper.wp execOp
    simp only [ho, resolve, invoke, builtin, Sem.run_bind, Sem.run_pure, Result.andThen_ok, List.map_toArray, List.map_cons, List.map_nil, hs, hx, run_append_of_nil W base t o.type e i0 size hT hi v n xs hown c]
    exact h v W (by simpa using hown) (World.grownBy.refl W _) (.inl rfl)
  · obtain ⟨v', w', hrun, h2, h3, _, h5⟩ := run_append_own_at (P := P) W base t o.type e i0 z size bytes hT hi hz0 hz1 hz2 hzs hsz v n xs hown ad m c ys hr.1 (by
      intro j u hu
      rcases Nat.eq_zero_or_pos m with h0 | h0
      · subst h0
        have hn : ys = [] := List.eq_nil_of_length_eq_zero (by simpa using hr.1)
        subst hn
        simp at hu
      · obtain ⟨g, o, h, hc⟩ := hr.2 h0
        injection h with h
        subst h
        rw [add_at]
        exact hc j u hu) h1 (by simp only [maxLen]; omega) hb hbase
    unfold Oper.wp execOp
    simp only [ho, resolve, invoke, builtin, Sem.run_bind, Sem.run_pure, Result.andThen_ok, List.map_toArray, List.map_cons, List.map_nil, hs, hx, hrun]
    exact h v' w' h2 h3 h5
set_option maxRecDepth 100000 in
set_option maxHeartbeats 1000000 in
theorem radd_any (A : Option Addr) (n c : Nat) (l : List ByteArray) (a : ByteArray) (w : World) (hr : Rs w A n 1 (vs l)) (hn : n ≤ 100000) (hc : n ≤ c) (hA : A = none → c = 0) (hs : ∀ s ∈ l, s.size ≤ 1000000) (ha : a.size ≤ 1000000) :
    Calls Tryd.prog 42 #[.agg #[.slice A n c], .string a] w fun e w' => AddIs l a w e w' := by
  have hl := hr.slen
  have hn6 : n ≤ 1000000 := by omega
  obtain ⟨hs0, hr0, hB0⟩ := two_alloc w #[.slice A n c] #[.slice none 0 0] 34 34
  go_enter Tryd.func42, Tryd.ntmps42
  go_wp2_with fail
  generalize ((w.alloc (.cells #[.slice A n c] 34)).alloc (.cells #[.slice none 0 0] 34)) = W at hs0 hr0 hB0 ⊢
  have hrW := hr.below hB0
  have s0 : W.cell? ⟨w.heap.size, 0, none⟩ = some (.slice A n c) := hs0.cell 0
  go_region_held3 (fun X : World => X.cell? ⟨w.heap.size, 0, none⟩ = some (.slice A n c)) (go_keep) (first
    | (go_at_call 54; refine (rof_dg a _ ha).mono ?_; rintro e w1 ⟨d0, d1, d2, d3, hd, rfl, hb1⟩; have hB1 := hB0.drew.trans (hb1.mono hB0.size); have hs1 := hs0.drew.belowS hb1; have hr1 := hr0.drew.belowS hb1; have s1 : w1.cell? ⟨w.heap.size, 0, none⟩ = some (.slice A n c) := hs1.cell 0; have hrr1 := hr.below hB1)
    | (go_at_call 77; refine (rfind_any A n c l d0 d1 d2 d3 _ ?_ hn6 hs).mono ?_; exact hrr1; rintro e w2 ⟨rfl, hb2⟩; have hB2 := hB1.trans (hb2.mono hB1.size); have hs2 := hs1.belowS hb2; have hr2 := hr1.belowS hb2; have s2 : w2.cell? ⟨w.heap.size, 0, none⟩ = some (.slice A n c) := hs2.cell 0))
  have q2 : w2.cell? ⟨w.heap.size + 1, 0, none⟩ = some (.slice none 0 0) := hr2.cell 0
  have f2 := hr2.frozen 0
  have hrs2 := hr.below hB2
  clear hb1 s1 hrr1 s0 hrW
  rw [← hd.out]
  clear hs0 hr0 hB0 hs1 hr1
  rcases addP_cases l a with ⟨i, hf, hi, hg, hadd⟩ | ⟨i, hf, hi, hg, hadd⟩ | ⟨hf, hlen, hadd⟩ | ⟨hf, hlen, hadd⟩
  · rw [hf]
    simp only [findI]
    obtain ⟨g, o, rfl, hcc⟩ := hrs2.str (k := i) (by omega)
    rw [hg] at hcc
    have hin : (i : Int) < (n : Int) := by omega
    have HADD := Lib.hid hadd
    have hne : (a.toList != a.toList) = false := by simp
    clear hf hg hadd
    go_wp2_with fail
    have hfin : Bx (w2.setCell ⟨w.heap.size + 1, 0, none⟩ (Value.slice (some ⟨g, o, none⟩) n c)) (w.heap.size + 1) 34 #[Value.slice (some ⟨g, o, none⟩) n c] := hr2.set 0 _
    refine bodyPost_ret (v := .tuple #[.agg #[Value.slice (some ⟨g, o, none⟩) n c], .int .i64 ((i : Nat) : Int), .int .i64 0]) (results_row3 rfl _ _ (w.heap.size + 1) 34 _ (0, 0) _ rfl rfl rfl hfin Tryd.underlying34 rfl (by kernel_rfl)) rfl ⟨_, _, _, by rw [HADD.out]; rfl, hc, hA, ?_, hB2.setCell (by simp) _⟩
    rw [HADD.out]
    exact hr.below (hB2.setCell (by simp) _)
  · rw [hf]
    simp only [findI]
    obtain ⟨g, o, rfl, hcc⟩ := hrs2.str (k := i) (by omega)
    have hin : (i : Int) < (n : Int) := by omega
    have HADD := Lib.hid hadd
    obtain ⟨R, hR⟩ : ∃ R, R = gs l i := ⟨_, rfl⟩
    rw [← hR] at hcc hg
    have hne : (R.toList == a.toList) = false := by
      rw [Lib.toList_data, Lib.toList_data]
      have : ¬ R.data.toList = a.data.toList := fun h => hg (ba_ext h)
      simpa using this
    clear hf hg hadd hR
    go_wp2_with fail
    have hfin : Bx (w2.setCell ⟨w.heap.size + 1, 0, none⟩ (Value.slice none 0 0)) (w.heap.size + 1) 34 #[Value.slice none 0 0] := hr2.set 0 _
    refine bodyPost_ret (v := .tuple #[.agg #[Value.slice none 0 0], .int .i64 (0), .int .i64 8]) (results_row3 rfl _ _ (w.heap.size + 1) 34 _ (0, 0) _ rfl rfl rfl hfin Tryd.underlying34 rfl (by kernel_rfl)) rfl ⟨_, _, _, by rw [HADD.out]; rfl, Nat.le_refl _, fun _ => rfl, ?_, hB2.setCell (by simp) _⟩
    rw [HADD.out]
    exact Rs.nil _ _ _
  · rw [hf]
    simp only [findI]
    have hnl : (1000 : Int) ≤ (n : Int) := by omega
    have HADD := Lib.hid hadd
    clear hf hadd hlen
    go_wp2_with fail
    have hfin : Bx (w2.setCell ⟨w.heap.size + 1, 0, none⟩ (Value.slice none 0 0)) (w.heap.size + 1) 34 #[Value.slice none 0 0] := hr2.set 0 _
    refine bodyPost_ret (v := .tuple #[.agg #[Value.slice none 0 0], .int .i64 (0), .int .i64 2]) (results_row3 rfl _ _ (w.heap.size + 1) 34 _ (0, 0) _ rfl rfl rfl hfin Tryd.underlying34 rfl (by kernel_rfl)) rfl ⟨_, _, _, by rw [HADD.out]; rfl, Nat.le_refl _, fun _ => rfl, ?_, hB2.setCell (by simp) _⟩
    rw [HADD.out]
    exact Rs.nil _ _ _
  · rw [hf]
    simp only [findI]
    have hnl : (n : Int) < 1000 := by omega
    have HADD := Lib.hid hadd
    clear hf hadd hlen
    go_wp2_with fail
    have hre := run_empty
    have hone : ∀ u ∈ vs l, u.oneCell' = true := by
      intro u hu
      obtain ⟨x, _, rfl⟩ := List.mem_map.1 hu
      rfl
    have hone1 : ∀ u ∈ (#[.string a] : Array Value).toList, u.oneCell' = true := by simp [Value.oneCell']
    have hsz2 := hr2.lt
    have hl16 : (0 + n) * 16 ≤ 140737488355328 := by omega
    have hl17 : (0 + n + 1) * 16 ≤ 140737488355328 := by omega
    have c1 : Below w2.heap.size w2 (w2.drew.alloc (.cells #[] 9)) := (Below.refl w2.heap.size w2).drew.alloc (Nat.le_refl _) _
    have c2 : Below w2.heap.size w2 ((w2.drew.alloc (.cells #[] 9)).alloc (.cells #[.string a] 9)) := c1.alloc (by simp) _
    have c3 : Below w2.heap.size w2 ((w2.drew.alloc (.cells #[.string a] 9)).alloc (.cells #[] 9)) := ((Below.refl w2.heap.size w2).drew.alloc (Nat.le_refl _) _).alloc (by simp) _
    have o1 : (w2.drew.alloc (.cells #[] 9)).ownsRow w2.heap.size 9 1 (.slice (some ⟨w2.heap.size, 0, none⟩) 0 0) 0 [] := own_empty w2.drew 9 1
    have o2 : ((w2.drew.alloc (.cells #[] 9)).alloc (.cells #[.string a] 9)).ownsRow w2.heap.size 9 1 (.slice (some ⟨w2.heap.size, 0, none⟩) 0 0) 0 [] := o1.alloc _
    have o3 : ((w2.drew.alloc (.cells #[.string a] 9)).alloc (.cells #[] 9)).ownsRow w2.heap.size 9 1 (.slice (some ⟨w2.heap.size + 1, 0, none⟩) 0 0) 0 [] := by
      have := (own_empty (w2.drew.alloc (.cells #[.string a] 9)) 9 1).mono (base' := w2.heap.size) (by simp)
      rw [World.size_alloc] at this
      exact this
    have e2 : Bx ((w2.drew.alloc (.cells #[] 9)).alloc (.cells #[.string a] 9)) (w2.heap.size + 1) 9 #[.string a] := by
      have := Bx.new (w2.drew.alloc (.cells #[] 9)) 9 #[.string a]
      rw [World.size_alloc] at this
      exact this
    have e3 : Bx ((w2.drew.alloc (.cells #[.string a] 9)).alloc (.cells #[] 9)) w2.heap.size 9 #[.string a] := (Bx.new w2.drew 9 #[.string a]).alloc _
    have z1 : w2.heap.size ≤ (w2.drew.alloc (.cells #[] 9)).heap.size := c1.size
    have z2 : w2.heap.size ≤ ((w2.drew.alloc (.cells #[] 9)).alloc (.cells #[.string a] 9)).heap.size := c2.size
    have z3 : w2.heap.size ≤ ((w2.drew.alloc (.cells #[.string a] 9)).alloc (.cells #[] 9)).heap.size := c3.size
    have r1 := hrs2.below c1
    have r2 := hrs2.below c2
    have r3 := hrs2.below c3
    go_region_held_law (fun X : World => X.cell? ⟨w.heap.size, 0, none⟩ = some (.slice A n c)) (go_keep) (first
      | (refine step_ap_rs 22 9 _ 1 16 Tryd.underlying22 infoStr rfl (by decide) (by decide) rfl _ _ rfl w2.heap.size (.slice (some ⟨w2.heap.size, 0, none⟩) 0 0) 0 [] rfl o1 A n c (vs l) rfl r1 hone hl16 z1 ?_; intro v3 w3 hown3 hg3 hat3; have hY3 := c1.grown hg3 z1 (own_base o1); have hs3 := hs2.belowS hY3; have hr3 := hr2.belowS hY3; have s3 : w3.cell? ⟨w.heap.size, 0, none⟩ = some (.slice A n c) := hs3.cell 0)
      | (refine step_ap_rs 22 9 _ 1 16 Tryd.underlying22 infoStr rfl (by decide) (by decide) rfl _ _ rfl w2.heap.size (.slice (some ⟨w2.heap.size, 0, none⟩) 0 0) 0 [] rfl o2 A n c (vs l) rfl r2 hone hl16 z2 ?_; intro v3 w3 hown3 hg3 hat3; have hY3 := c2.grown hg3 z2 (own_base o2); have el3 := e2.grown hg3 (by simp [Value.ownBlock]); have hs3 := hs2.belowS hY3; have hr3 := hr2.belowS hY3; have s3 : w3.cell? ⟨w.heap.size, 0, none⟩ = some (.slice A n c) := hs3.cell 0)
      | (refine step_ap_rs 22 9 _ 1 16 Tryd.underlying22 infoStr rfl (by decide) (by decide) rfl _ _ rfl w2.heap.size (.slice (some ⟨w2.heap.size + 1, 0, none⟩) 0 0) 0 [] rfl o3 A n c (vs l) rfl r3 hone hl16 z3 ?_; intro v3 w3 hown3 hg3 hat3; have hY3 := c3.grown hg3 z3 (own_base o3); have el3 := e3.grown hg3 (by simp [Value.ownBlock]); have hs3 := hs2.belowS hY3; have hr3 := hr2.belowS hY3; have s3 : w3.cell? ⟨w.heap.size, 0, none⟩ = some (.slice A n c) := hs3.cell 0)
      | (refine step_ap_new 22 9 _ 1 16 Tryd.underlying22 infoStr rfl (by decide) (by decide) rfl _ _ rfl w2.heap.size v3 (0 + n) _ rfl (hown3.alloc _) w3.heap.size 1 1 #[.string a] rfl (Bx.new w3 9 _) rfl hone1 hl17 (hY3.alloc hY3.size (.cells #[.string a] 9)).size ?_; intro v4 w4 hown4 hg4 hat4; have hY4 := (hY3.alloc hY3.size (.cells #[.string a] 9)).grown hg4 (hY3.alloc hY3.size (.cells #[.string a] 9)).size (own_base hown3); obtain ⟨g4, c4, rfl⟩ := ownsRow_succ hown4; have hs4 := hs2.belowS hY4; have hr4 := hr2.belowS hY4; have s4 : w4.cell? ⟨w.heap.size, 0, none⟩ = some (.slice A n c) := hs4.cell 0; have q4 : w4.cell? ⟨w.heap.size + 1, 0, none⟩ = some (.slice none 0 0) := hr4.cell 0; have f4 := hr4.frozen 0)
      | (refine step_ap_new 22 9 _ 1 16 Tryd.underlying22 infoStr rfl (by decide) (by decide) rfl _ _ rfl w2.heap.size v3 (0 + n) _ rfl hown3 _ 1 1 #[.string a] rfl el3 rfl hone1 hl17 hY3.size ?_; intro v4 w4 hown4 hg4 hat4; have hY4 := hY3.grown hg4 hY3.size (own_base hown3); obtain ⟨g4, c4, rfl⟩ := ownsRow_succ hown4; have hs4 := hs2.belowS hY4; have hr4 := hr2.belowS hY4; have s4 : w4.cell? ⟨w.heap.size, 0, none⟩ = some (.slice A n c) := hs4.cell 0; have q4 : w4.cell? ⟨w.heap.size + 1, 0, none⟩ = some (.slice none 0 0) := hr4.cell 0; have f4 := hr4.frozen 0))
    all_goals
      go_wp2_with fail
      have hfin : Bx (w4.setCell ⟨w.heap.size + 1, 0, none⟩ (.slice (some ⟨g4, 0, none⟩) (n + 1) c4)) (w.heap.size + 1) 34 #[.slice (some ⟨g4, 0, none⟩) (n + 1) c4] := hr4.set 0 _
      have hglt := hown4.lt g4 rfl
      have hcc : n + 1 ≤ c4 := by
        obtain ⟨A', c', e, h1, h2⟩ := own_slice_cap hown4
        injection e with _ _ e3
        omega
      have hrow := Rs.of_own hown4
      refine bodyPost_ret (v := .tuple #[.agg #[.slice (some ⟨g4, 0, none⟩) (n + 1) c4], .int .i64 (n : Nat), .int .i64 0]) (results_row3 rfl _ _ (w.heap.size + 1) 34 _ (0, 0) _ rfl rfl rfl hfin Tryd.underlying34 rfl (by kernel_rfl)) rfl ⟨some ⟨g4, 0, none⟩, n + 1, c4, by rw [HADD.out, hl]; rfl, hcc, (fun h => nomatch h), ?_, (hB2.trans (hY4.mono hB2.size)).setCell (by simp) _⟩
      rw [HADD.out]
      refine rs_far ?_ (fun a ha => ?_) _
      · show Rs w4 _ (n + 1) 1 (vs (l ++ [_]))
        rw [vs_app, ← Nat.zero_add n]
        exact hrow
      · cases ha
        show g4 ≠ w.heap.size + 1
        omega
end Go.Proofs.YtgpohndnkecbeaaDoor
