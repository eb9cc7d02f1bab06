/- Contracts: store.Add, ref42.Add. Contract: ref42.Add. Contracts: slices.Equal, store.Same, ref42.Same, Few, Right. Contracts: law42.small, law42.awake. -/
import Derived.Test.YtgpohndnkecbeaaDoorTb
import Derived.Deep.RegionHeld3
import Derived.Test.YtgpohndnkecbeaaDoorKc
import Derived.Deep.RegionHeldLaw
import Derived.Deep.Onto
namespace Go.Proofs.YtgpohndnkecbeaaDoor
open Go Go.RowKit Go.Proofs.Sc
theorem rs_far {w : World} {A : Option Addr} {n size : Nat} {xs : List Value} (h : Rs w A n size xs) {p : Addr} (hp : ∀ a, A = some a → a.block ≠ p.block) (u : Value) : Rs (w.setCell p u) A n size xs :=
  ⟨h.1, fun hn => by
    obtain ⟨g, o, e, hc⟩ := h.2 hn
    refine ⟨g, o, e, fun j v hv => ?_⟩
    have hne := hp _ e
    rw [World.cell?_setCell_other]
    · exact hc j v hv
    · intro e2
      exact hne (by rw [e2])⟩
/-- Results: a struct in a cell of its own, and two, one more. -/
theorem results_row3 {P : Program} {fn : Func} {p u v : Tmp} {ty : TypeId} {x y : Value} (h : fn.results = #[.cell p ty, .tmp u, .tmp v]) (tmps : Array Value) (w : World) (g : Nat) (t : TypeId) (cs : Array Value) (fr : Nat × Nat) (d : TypeDesc)
    (hp : tmps.getD p undef = .pointer (some ⟨g, 0, none⟩)) (hx : tmps.getD u undef = x) (hy : tmps.getD v undef = y) (hg : w.heap[g]? = some (.cells cs t fr))
    (hu : P.underlying ty = some d) (hd : (match d with | .struct _ | .array _ _ => true | _ => false) = true) (hi : (P.info? ty).map (·.size) = some cs.size) :
    (results fn tmps).run P w = .ok (.tuple #[.agg cs, x, y]) w := by
  have hp' : tmps[p]?.getD undef = .pointer (some ⟨g, 0, none⟩) := by simpa using hp
  have hx' : tmps[u]?.getD undef = x := by simpa using hx
  have hy' : tmps[v]?.getD undef = y := by simpa using hy
  simp [results, h, hp', hx', hy', asAddr, run_loadVar_row w g t ty cs fr d hg hu hd hi]
theorem results_row2 {P : Program} {fn : Func} {p u : Tmp} {ty : TypeId} {x : Value} (h : fn.results = #[.cell p ty, .tmp u]) (tmps : Array Value) (w : World) (g : Nat) (t : TypeId) (cs : Array Value) (fr : Nat × Nat) (d : TypeDesc)
    (hp : tmps.getD p undef = .pointer (some ⟨g, 0, none⟩)) (hx : tmps.getD u undef = x) (hg : w.heap[g]? = some (.cells cs t fr))
    (hu : P.underlying ty = some d) (hd : (match d with | .struct _ | .array _ _ => true | _ => false) = true) (hi : (P.info? ty).map (·.size) = some cs.size) :
    (results fn tmps).run P w = .ok (.tuple #[.agg cs, x]) w := by
  have hp' : tmps[p]?.getD undef = .pointer (some ⟨g, 0, none⟩) := by simpa using hp
  have hx' : tmps[u]?.getD undef = x := by simpa using hx
  simp [results, h, hp', hx', asAddr, run_loadVar_row w g t ty cs fr d hg hu hd hi]
/-- What Add hands back. -/
def AddIs (l : List ByteArray) (a : ByteArray) (w : World) (e : Ending) (w' : World) : Prop :=
  ∃ (A : Option Addr) (n c : Nat), e = .returned (.tuple #[.agg #[.slice A n c], .int .i64 (addP l a).2.1, .int .i64 (addP l a).2.2]) ∧ n ≤ c ∧ (A = none → c = 0) ∧ Rs w' A n 1 (vs (addP l a).1) ∧ Below w.heap.size w w'
set_option maxRecDepth 100000 in
set_option maxHeartbeats 1000000 in
theorem add_any (A : Option Addr) (n c : Nat) (l : List ByteArray) (a : ByteArray) (w : World) (hT : Turns w) (hr : Rs w A n 1 (vs l)) (hn : n ≤ 100000) (hc : n ≤ c) (hA : A = none → c = 0) (hs : ∀ s ∈ l, s.size ≤ 1000000) (ha : a.size ≤ 1000000) :
    Calls Tryd.prog 41 #[.agg #[.slice A n c], .string a] w fun e w' => AddIs l a w e w' := by
  have hl := hr.slen
  have hn6 : n ≤ 1000000 := by omega
  obtain ⟨hs0, hr0, hB0⟩ := two_alloc w #[.slice A n c] #[.slice none 0 0] 34 34
  go_enter Tryd.func41, Tryd.ntmps41
  go_wp2_with fail
  generalize ((w.alloc (.cells #[.slice A n c] 34)).alloc (.cells #[.slice none 0 0] 34)) = W at hs0 hr0 hB0 ⊢
  have hTW : Turns W := hT.belowS hB0
  have hrW := hr.below hB0
  have s0 : W.cell? ⟨w.heap.size, 0, none⟩ = some (.slice A n c) := hs0.cell 0
  go_region_held3 (fun X : World => X.cell? ⟨w.heap.size, 0, none⟩ = some (.slice A n c)) (go_keep) (first
    | (go_at_call 29; refine (of_dg a _ ?_ ha).mono ?_; exact hTW; rintro e w1 ⟨d0, d1, d2, d3, hd, rfl, hb1⟩; have hB1 := hB0.drew.trans (hb1.mono hB0.size); have hs1 := hs0.drew.belowS hb1; have hr1 := hr0.drew.belowS hb1; have s1 : w1.cell? ⟨w.heap.size, 0, none⟩ = some (.slice A n c) := hs1.cell 0; have hT1 : Turns w1 := hT.belowS hB1; have hrr1 := hr.below hB1)
    | (go_at_call 67; refine (find_any A n c l d0 d1 d2 d3 _ ?_ ?_ hn6 hs).mono ?_; exact hT1; exact hrr1; rintro e w2 ⟨rfl, hb2⟩; have hB2 := hB1.trans (hb2.mono hB1.size); have hs2 := hs1.belowS hb2; have hr2 := hr1.belowS hb2; have s2 : w2.cell? ⟨w.heap.size, 0, none⟩ = some (.slice A n c) := hs2.cell 0))
  have q2 : w2.cell? ⟨w.heap.size + 1, 0, none⟩ = some (.slice none 0 0) := hr2.cell 0
  have f2 := hr2.frozen 0
  have hrs2 := hr.below hB2
  clear hb1 s1 hT1 hrr1 s0 hTW hrW
  rw [← hd.out]
  clear hs0 hr0 hB0 hs1 hr1
  rcases addP_cases l a with ⟨i, hf, hi, hg, hadd⟩ | ⟨i, hf, hi, hg, hadd⟩ | ⟨hf, hlen, hadd⟩ | ⟨hf, hlen, hadd⟩
  · rw [hf]
    simp only [findI]
    obtain ⟨g, o, rfl, hcc⟩ := hrs2.str (k := i) (by omega)
    rw [hg] at hcc
    have hin : (i : Int) < (n : Int) := by omega
    have HADD := Lib.hid hadd
    have hne : (a.toList != a.toList) = false := by simp
    clear hf hg hadd
    go_wp2_with fail
    have hfin : Bx (w2.setCell ⟨w.heap.size + 1, 0, none⟩ (Value.slice (some ⟨g, o, none⟩) n c)) (w.heap.size + 1) 34 #[Value.slice (some ⟨g, o, none⟩) n c] := hr2.set 0 _
    refine bodyPost_ret (v := .tuple #[.agg #[Value.slice (some ⟨g, o, none⟩) n c], .int .i64 ((i : Nat) : Int), .int .i64 0]) (results_row3 rfl _ _ (w.heap.size + 1) 34 _ (0, 0) _ rfl rfl rfl hfin Tryd.underlying34 rfl (by kernel_rfl)) rfl ⟨_, _, _, by rw [HADD.out]; rfl, hc, hA, ?_, hB2.setCell (by simp) _⟩
    rw [HADD.out]
    exact hr.below (hB2.setCell (by simp) _)
  · rw [hf]
    simp only [findI]
    obtain ⟨g, o, rfl, hcc⟩ := hrs2.str (k := i) (by omega)
    have hin : (i : Int) < (n : Int) := by omega
    have HADD := Lib.hid hadd
    obtain ⟨R, hR⟩ : ∃ R, R = gs l i := ⟨_, rfl⟩
    rw [← hR] at hcc hg
    have hne : (R.toList == a.toList) = false := by
      rw [Lib.toList_data, Lib.toList_data]
      have : ¬ R.data.toList = a.data.toList := fun h => hg (ba_ext h)
      simpa using this
    clear hf hg hadd hR
    go_wp2_with fail
    have hfin : Bx (w2.setCell ⟨w.heap.size + 1, 0, none⟩ (Value.slice none 0 0)) (w.heap.size + 1) 34 #[Value.slice none 0 0] := hr2.set 0 _
    refine bodyPost_ret (v := .tuple #[.agg #[Value.slice none 0 0], .int .i64 (0), .int .i64 8]) (results_row3 rfl _ _ (w.heap.size + 1) 34 _ (0, 0) _ rfl rfl rfl hfin Tryd.underlying34 rfl (by kernel_rfl)) rfl ⟨_, _, _, by rw [HADD.out]; rfl, Nat.le_refl _, fun _ => rfl, ?_, hB2.setCell (by simp) _⟩
    rw [HADD.out]
    exact Rs.nil _ _ _
  · rw [hf]
    simp only [findI]
    have hnl : (1000 : Int) ≤ (n : Int) := by omega
    have HADD := Lib.hid hadd
    clear hf hadd hlen
    go_wp2_with fail
    have hfin : Bx (w2.setCell ⟨w.heap.size + 1, 0, none⟩ (Value.slice none 0 0)) (w.heap.size + 1) 34 #[Value.slice none 0 0] := hr2.set 0 _
    refine bodyPost_ret (v := .tuple #[.agg #[Value.slice none 0 0], .int .i64 (0), .int .i64 2]) (results_row3 rfl _ _ (w.heap.size + 1) 34 _ (0, 0) _ rfl rfl rfl hfin Tryd.underlying34 rfl (by kernel_rfl)) rfl ⟨_, _, _, by rw [HADD.out]; rfl, Nat.le_refl _, fun _ => rfl, ?_, hB2.setCell (by simp) _⟩
    rw [HADD.out]
    exact Rs.nil _ _ _
  · rw [hf]
    simp only [findI]
    have hnl : (n : Int) < 1000 := by omega
    have HADD := Lib.hid hadd
    clear hf hadd hlen
    go_wp2_with fail
    have hB2s := hB2.size
    go_region_held3 (fun X : World => X.cell? ⟨w.heap.size, 0, none⟩ = some (.slice A n c)) (go_keep) (first
      | (go_at_call 74; refine (with_any A n c l a _ ?_ hn6 hc hA).mono ?_; exact hrs2; rintro e w3 ⟨v, rfl, A3, n3, c3, rfl, hnc3, hA3, hrs3, hfr3, hb3⟩; have hB3 := hB2.drew.trans (hb3.mono hB2s); have hs3 := hs2.drew.belowS hb3; have hr3 := hr2.drew.belowS hb3; have s3 : w3.cell? ⟨w.heap.size, 0, none⟩ = some (.slice A n c) := hs3.cell 0; have q3 : w3.cell? ⟨w.heap.size + 1, 0, none⟩ = some (.slice none 0 0) := hr3.cell 0; have f3 := hr3.frozen 0))
    all_goals
      go_wp2_with fail
      have hfin : Bx (w3.setCell ⟨w.heap.size + 1, 0, none⟩ (.slice A3 n3 c3)) (w.heap.size + 1) 34 #[.slice A3 n3 c3] := hr3.set 0 _
      have hsz2 := hr2.lt
      refine bodyPost_ret (v := .tuple #[.agg #[.slice A3 n3 c3], .int .i64 (n : Nat), .int .i64 0]) (results_row3 rfl _ _ (w.heap.size + 1) 34 _ (0, 0) _ rfl rfl rfl hfin Tryd.underlying34 rfl (by kernel_rfl)) rfl ⟨A3, n3, c3, by rw [HADD.out, hl]; rfl, hnc3, hA3, ?_, hB3.setCell (by simp) _⟩
      rw [HADD.out]
      refine rs_far hrs3 (fun a ha => ?_) _
      have h4 : w2.heap.size ≤ a.block := hfr3 a ha
      show a.block ≠ w.heap.size + 1
      omega
end Go.Proofs.YtgpohndnkecbeaaDoor
namespace Go.Proofs.YtgpohndnkecbeaaDoor
open Go Go.RowKit Go.Proofs.Sc
/-- append of what another slice holds, as a step of a region. -/
theorem step_ap_rs {P : Program} {W : World} {ops : Array Oper} {o : Oper} {a : Act} {K : Act → World → Prop} {Q : Exit → Act → World → Prop} {E : Prop} (t e : TypeId) (z : Value) (size bytes : Nat)
    (hT : P.underlying t = some (.slice e)) (hI : (P.info? e).map (fun i => (i.zero, i.size, i.bytes)) = some (some z, size, bytes)) (hzs : z.cells.size = size) (hsz : 0 < size) (hb0 : 0 < bytes)
    (hgd : o.guard = none) (s x : Operand) (ho : o.op = .call { callee := .builtin .append, args := #[s, x], argTypes := #[t, t] })
    (base : Nat) (v : Value) (n : Nat) (xs : List Value) (hs : a.eval s = v) (hown : W.ownsRow base e size v n xs)
    (A : Option Addr) (m c : Nat) (ys : List Value) (hx : a.eval x = .slice A m c) (hr : Rs W A m size ys) (h1 : ∀ u ∈ ys, u.oneCell' = true)
    (hb : (n + m) * bytes ≤ 140737488355328) (hbase : base ≤ W.heap.size)
    (h : ∀ v' w', w'.ownsRow base e size v' (n + m) (xs ++ ys) → W.grownBy w' v.ownBlock → (v'.ownBlock = v.ownBlock ∨ v'.ownBlock = some W.heap.size) → K (a.put o.dst v') w') :
    if Region.wanted o (yielded ops a.tmps) = true then Oper.wp P o a W K Q else E := by
  have hw : Region.wanted o (yielded ops a.tmps) = true := by simp [Region.wanted, hgd]
  rw [if_pos hw]
  obtain ⟨i0, hi, hz0, hz1, hz2⟩ := info_parts hI
  have hlen : n + m ≤ 140737488355328 := Nat.le_trans (Nat.le_mul_of_pos_right _ hb0) hb
  rcases A with _ | ad
  · have hm : m = 0 := by
      rcases Nat.eq_zero_or_pos m with h0 | h0
      · exact h0
      · obtain ⟨g, o, h, _⟩ := hr.2 h0
        cases h
    subst hm
    have hn : ys = [] := List.eq_nil_of_length_eq_zero (by simpa using hr.1)
    subst hn
    unfold Oper.wp execOp
    simp only [ho, resolve, invoke, builtin, Sem.run_bind, Sem.run_pure, Result.andThen_ok, List.map_toArray, List.map_cons, List.map_nil, hs, hx, run_append_of_nil W base t o.type e i0 size hT hi v n xs hown c]
    exact h v W (by simpa using hown) (World.grownBy.refl W _) (.inl rfl)
  · obtain ⟨v', w', hrun, h2, h3, _, h5⟩ := run_append_own_at (P := P) W base t o.type e i0 z size bytes hT hi hz0 hz1 hz2 hzs hsz v n xs hown ad m c ys hr.1 (by
      intro j u hu
      rcases Nat.eq_zero_or_pos m with h0 | h0
      · subst h0
        have hn : ys = [] := List.eq_nil_of_length_eq_zero (by simpa using hr.1)
        subst hn
        simp at hu
      · obtain ⟨g, o, h, hc⟩ := hr.2 h0
        injection h with h
        subst h
        rw [add_at]
        exact hc j u hu) h1 (by simp only [maxLen]; omega) hb hbase
    unfold Oper.wp execOp
    simp only [ho, resolve, invoke, builtin, Sem.run_bind, Sem.run_pure, Result.andThen_ok, List.map_toArray, List.map_cons, List.map_nil, hs, hx, hrun]
    exact h v' w' h2 h3 h5
set_option maxRecDepth 100000 in
set_option maxHeartbeats 1000000 in
theorem radd_any (A : Option Addr) (n c : Nat) (l : List ByteArray) (a : ByteArray) (w : World) (hr : Rs w A n 1 (vs l)) (hn : n ≤ 100000) (hc : n ≤ c) (hA : A = none → c = 0) (hs : ∀ s ∈ l, s.size ≤ 1000000) (ha : a.size ≤ 1000000) :
    Calls Tryd.prog 42 #[.agg #[.slice A n c], .string a] w fun e w' => AddIs l a w e w' := by
  have hl := hr.slen
  have hn6 : n ≤ 1000000 := by omega
  obtain ⟨hs0, hr0, hB0⟩ := two_alloc w #[.slice A n c] #[.slice none 0 0] 34 34
  go_enter Tryd.func42, Tryd.ntmps42
  go_wp2_with fail
  generalize ((w.alloc (.cells #[.slice A n c] 34)).alloc (.cells #[.slice none 0 0] 34)) = W at hs0 hr0 hB0 ⊢
  have hrW := hr.below hB0
  have s0 : W.cell? ⟨w.heap.size, 0, none⟩ = some (.slice A n c) := hs0.cell 0
  go_region_held3 (fun X : World => X.cell? ⟨w.heap.size, 0, none⟩ = some (.slice A n c)) (go_keep) (first
    | (go_at_call 54; refine (rof_dg a _ ha).mono ?_; rintro e w1 ⟨d0, d1, d2, d3, hd, rfl, hb1⟩; have hB1 := hB0.drew.trans (hb1.mono hB0.size); have hs1 := hs0.drew.belowS hb1; have hr1 := hr0.drew.belowS hb1; have s1 : w1.cell? ⟨w.heap.size, 0, none⟩ = some (.slice A n c) := hs1.cell 0; have hrr1 := hr.below hB1)
    | (go_at_call 77; refine (rfind_any A n c l d0 d1 d2 d3 _ ?_ hn6 hs).mono ?_; exact hrr1; rintro e w2 ⟨rfl, hb2⟩; have hB2 := hB1.trans (hb2.mono hB1.size); have hs2 := hs1.belowS hb2; have hr2 := hr1.belowS hb2; have s2 : w2.cell? ⟨w.heap.size, 0, none⟩ = some (.slice A n c) := hs2.cell 0))
  have q2 : w2.cell? ⟨w.heap.size + 1, 0, none⟩ = some (.slice none 0 0) := hr2.cell 0
  have f2 := hr2.frozen 0
  have hrs2 := hr.below hB2
  clear hb1 s1 hrr1 s0 hrW
  rw [← hd.out]
  clear hs0 hr0 hB0 hs1 hr1
  rcases addP_cases l a with ⟨i, hf, hi, hg, hadd⟩ | ⟨i, hf, hi, hg, hadd⟩ | ⟨hf, hlen, hadd⟩ | ⟨hf, hlen, hadd⟩
  · rw [hf]
    simp only [findI]
    obtain ⟨g, o, rfl, hcc⟩ := hrs2.str (k := i) (by omega)
    rw [hg] at hcc
    have hin : (i : Int) < (n : Int) := by omega
    have HADD := Lib.hid hadd
    have hne : (a.toList != a.toList) = false := by simp
    clear hf hg hadd
    go_wp2_with fail
    have hfin : Bx (w2.setCell ⟨w.heap.size + 1, 0, none⟩ (Value.slice (some ⟨g, o, none⟩) n c)) (w.heap.size + 1) 34 #[Value.slice (some ⟨g, o, none⟩) n c] := hr2.set 0 _
    refine bodyPost_ret (v := .tuple #[.agg #[Value.slice (some ⟨g, o, none⟩) n c], .int .i64 ((i : Nat) : Int), .int .i64 0]) (results_row3 rfl _ _ (w.heap.size + 1) 34 _ (0, 0) _ rfl rfl rfl hfin Tryd.underlying34 rfl (by kernel_rfl)) rfl ⟨_, _, _, by rw [HADD.out]; rfl, hc, hA, ?_, hB2.setCell (by simp) _⟩
    rw [HADD.out]
    exact hr.below (hB2.setCell (by simp) _)
  · rw [hf]
    simp only [findI]
    obtain ⟨g, o, rfl, hcc⟩ := hrs2.str (k := i) (by omega)
    have hin : (i : Int) < (n : Int) := by omega
    have HADD := Lib.hid hadd
    obtain ⟨R, hR⟩ : ∃ R, R = gs l i := ⟨_, rfl⟩
    rw [← hR] at hcc hg
    have hne : (R.toList == a.toList) = false := by
      rw [Lib.toList_data, Lib.toList_data]
      have : ¬ R.data.toList = a.data.toList := fun h => hg (ba_ext h)
      simpa using this
    clear hf hg hadd hR
    go_wp2_with fail
    have hfin : Bx (w2.setCell ⟨w.heap.size + 1, 0, none⟩ (Value.slice none 0 0)) (w.heap.size + 1) 34 #[Value.slice none 0 0] := hr2.set 0 _
    refine bodyPost_ret (v := .tuple #[.agg #[Value.slice none 0 0], .int .i64 (0), .int .i64 8]) (results_row3 rfl _ _ (w.heap.size + 1) 34 _ (0, 0) _ rfl rfl rfl hfin Tryd.underlying34 rfl (by kernel_rfl)) rfl ⟨_, _, _, by rw [HADD.out]; rfl, Nat.le_refl _, fun _ => rfl, ?_, hB2.setCell (by simp) _⟩
    rw [HADD.out]
    exact Rs.nil _ _ _
  · rw [hf]
    simp only [findI]
    have hnl : (1000 : Int) ≤ (n : Int) := by omega
    have HADD := Lib.hid hadd
    clear hf hadd hlen
    go_wp2_with fail
    have hfin : Bx (w2.setCell ⟨w.heap.size + 1, 0, none⟩ (Value.slice none 0 0)) (w.heap.size + 1) 34 #[Value.slice none 0 0] := hr2.set 0 _
    refine bodyPost_ret (v := .tuple #[.agg #[Value.slice none 0 0], .int .i64 (0), .int .i64 2]) (results_row3 rfl _ _ (w.heap.size + 1) 34 _ (0, 0) _ rfl rfl rfl hfin Tryd.underlying34 rfl (by kernel_rfl)) rfl ⟨_, _, _, by rw [HADD.out]; rfl, Nat.le_refl _, fun _ => rfl, ?_, hB2.setCell (by simp) _⟩
    rw [HADD.out]
    exact Rs.nil _ _ _
  · rw [hf]
    simp only [findI]
    have hnl : (n : Int) < 1000 := by omega
    have HADD := Lib.hid hadd
    clear hf hadd hlen
    go_wp2_with fail
    have hre := run_empty
    have hone : ∀ u ∈ vs l, u.oneCell' = true := by
      intro u hu
      obtain ⟨x, _, rfl⟩ := List.mem_map.1 hu
      rfl
    have hone1 : ∀ u ∈ (#[.string a] : Array Value).toList, u.oneCell' = true := by simp [Value.oneCell']
    have hsz2 := hr2.lt
    have hl16 : (0 + n) * 16 ≤ 140737488355328 := by omega
    have hl17 : (0 + n + 1) * 16 ≤ 140737488355328 := by omega
    have c1 : Below w2.heap.size w2 (w2.drew.alloc (.cells #[] 9)) := (Below.refl w2.heap.size w2).drew.alloc (Nat.le_refl _) _
    have c2 : Below w2.heap.size w2 ((w2.drew.alloc (.cells #[] 9)).alloc (.cells #[.string a] 9)) := c1.alloc (by simp) _
    have c3 : Below w2.heap.size w2 ((w2.drew.alloc (.cells #[.string a] 9)).alloc (.cells #[] 9)) := ((Below.refl w2.heap.size w2).drew.alloc (Nat.le_refl _) _).alloc (by simp) _
    have o1 : (w2.drew.alloc (.cells #[] 9)).ownsRow w2.heap.size 9 1 (.slice (some ⟨w2.heap.size, 0, none⟩) 0 0) 0 [] := own_empty w2.drew 9 1
    have o2 : ((w2.drew.alloc (.cells #[] 9)).alloc (.cells #[.string a] 9)).ownsRow w2.heap.size 9 1 (.slice (some ⟨w2.heap.size, 0, none⟩) 0 0) 0 [] := o1.alloc _
    have o3 : ((w2.drew.alloc (.cells #[.string a] 9)).alloc (.cells #[] 9)).ownsRow w2.heap.size 9 1 (.slice (some ⟨w2.heap.size + 1, 0, none⟩) 0 0) 0 [] := by
      have := (own_empty (w2.drew.alloc (.cells #[.string a] 9)) 9 1).mono (base' := w2.heap.size) (by simp)
      rw [World.size_alloc] at this
      exact this
    have e2 : Bx ((w2.drew.alloc (.cells #[] 9)).alloc (.cells #[.string a] 9)) (w2.heap.size + 1) 9 #[.string a] := by
      have := Bx.new (w2.drew.alloc (.cells #[] 9)) 9 #[.string a]
      rw [World.size_alloc] at this
      exact this
    have e3 : Bx ((w2.drew.alloc (.cells #[.string a] 9)).alloc (.cells #[] 9)) w2.heap.size 9 #[.string a] := (Bx.new w2.drew 9 #[.string a]).alloc _
    have z1 : w2.heap.size ≤ (w2.drew.alloc (.cells #[] 9)).heap.size := c1.size
    have z2 : w2.heap.size ≤ ((w2.drew.alloc (.cells #[] 9)).alloc (.cells #[.string a] 9)).heap.size := c2.size
    have z3 : w2.heap.size ≤ ((w2.drew.alloc (.cells #[.string a] 9)).alloc (.cells #[] 9)).heap.size := c3.size
    have r1 := hrs2.below c1
    have r2 := hrs2.below c2
    have r3 := hrs2.below c3
    go_region_held_law (fun X : World => X.cell? ⟨w.heap.size, 0, none⟩ = some (.slice A n c)) (go_keep) (first
      | (refine step_ap_rs 22 9 _ 1 16 Tryd.underlying22 infoStr rfl (by decide) (by decide) rfl _ _ rfl w2.heap.size (.slice (some ⟨w2.heap.size, 0, none⟩) 0 0) 0 [] rfl o1 A n c (vs l) rfl r1 hone hl16 z1 ?_; intro v3 w3 hown3 hg3 hat3; have hY3 := c1.grown hg3 z1 (own_base o1); have hs3 := hs2.belowS hY3; have hr3 := hr2.belowS hY3; have s3 : w3.cell? ⟨w.heap.size, 0, none⟩ = some (.slice A n c) := hs3.cell 0)
      | (refine step_ap_rs 22 9 _ 1 16 Tryd.underlying22 infoStr rfl (by decide) (by decide) rfl _ _ rfl w2.heap.size (.slice (some ⟨w2.heap.size, 0, none⟩) 0 0) 0 [] rfl o2 A n c (vs l) rfl r2 hone hl16 z2 ?_; intro v3 w3 hown3 hg3 hat3; have hY3 := c2.grown hg3 z2 (own_base o2); have el3 := e2.grown hg3 (by simp [Value.ownBlock]); have hs3 := hs2.belowS hY3; have hr3 := hr2.belowS hY3; have s3 : w3.cell? ⟨w.heap.size, 0, none⟩ = some (.slice A n c) := hs3.cell 0)
      | (refine step_ap_rs 22 9 _ 1 16 Tryd.underlying22 infoStr rfl (by decide) (by decide) rfl _ _ rfl w2.heap.size (.slice (some ⟨w2.heap.size + 1, 0, none⟩) 0 0) 0 [] rfl o3 A n c (vs l) rfl r3 hone hl16 z3 ?_; intro v3 w3 hown3 hg3 hat3; have hY3 := c3.grown hg3 z3 (own_base o3); have el3 := e3.grown hg3 (by simp [Value.ownBlock]); have hs3 := hs2.belowS hY3; have hr3 := hr2.belowS hY3; have s3 : w3.cell? ⟨w.heap.size, 0, none⟩ = some (.slice A n c) := hs3.cell 0)
      | (refine step_ap_new 22 9 _ 1 16 Tryd.underlying22 infoStr rfl (by decide) (by decide) rfl _ _ rfl w2.heap.size v3 (0 + n) _ rfl (hown3.alloc _) w3.heap.size 1 1 #[.string a] rfl (Bx.new w3 9 _) rfl hone1 hl17 (hY3.alloc hY3.size (.cells #[.string a] 9)).size ?_; intro v4 w4 hown4 hg4 hat4; have hY4 := (hY3.alloc hY3.size (.cells #[.string a] 9)).grown hg4 (hY3.alloc hY3.size (.cells #[.string a] 9)).size (own_base hown3); obtain ⟨g4, c4, rfl⟩ := ownsRow_succ hown4; have hs4 := hs2.belowS hY4; have hr4 := hr2.belowS hY4; have s4 : w4.cell? ⟨w.heap.size, 0, none⟩ = some (.slice A n c) := hs4.cell 0; have q4 : w4.cell? ⟨w.heap.size + 1, 0, none⟩ = some (.slice none 0 0) := hr4.cell 0; have f4 := hr4.frozen 0)
      | (refine step_ap_new 22 9 _ 1 16 Tryd.underlying22 infoStr rfl (by decide) (by decide) rfl _ _ rfl w2.heap.size v3 (0 + n) _ rfl hown3 _ 1 1 #[.string a] rfl el3 rfl hone1 hl17 hY3.size ?_; intro v4 w4 hown4 hg4 hat4; have hY4 := hY3.grown hg4 hY3.size (own_base hown3); obtain ⟨g4, c4, rfl⟩ := ownsRow_succ hown4; have hs4 := hs2.belowS hY4; have hr4 := hr2.belowS hY4; have s4 : w4.cell? ⟨w.heap.size, 0, none⟩ = some (.slice A n c) := hs4.cell 0; have q4 : w4.cell? ⟨w.heap.size + 1, 0, none⟩ = some (.slice none 0 0) := hr4.cell 0; have f4 := hr4.frozen 0))
    all_goals
      go_wp2_with fail
      have hfin : Bx (w4.setCell ⟨w.heap.size + 1, 0, none⟩ (.slice (some ⟨g4, 0, none⟩) (n + 1) c4)) (w.heap.size + 1) 34 #[.slice (some ⟨g4, 0, none⟩) (n + 1) c4] := hr4.set 0 _
      have hglt := hown4.lt g4 rfl
      have hcc : n + 1 ≤ c4 := by
        obtain ⟨A', c', e, h1, h2⟩ := own_slice_cap hown4
        injection e with _ _ e3
        omega
      have hrow := Rs.of_own hown4
      refine bodyPost_ret (v := .tuple #[.agg #[.slice (some ⟨g4, 0, none⟩) (n + 1) c4], .int .i64 (n : Nat), .int .i64 0]) (results_row3 rfl _ _ (w.heap.size + 1) 34 _ (0, 0) _ rfl rfl rfl hfin Tryd.underlying34 rfl (by kernel_rfl)) rfl ⟨some ⟨g4, 0, none⟩, n + 1, c4, by rw [HADD.out, hl]; rfl, hcc, (fun h => nomatch h), ?_, (hB2.trans (hY4.mono hB2.size)).setCell (by simp) _⟩
      rw [HADD.out]
      refine rs_far ?_ (fun a ha => ?_) _
      · show Rs w4 _ (n + 1) 1 (vs (l ++ [_]))
        rw [vs_app, ← Nat.zero_add n]
        exact hrow
      · cases ha
        show g4 ≠ w.heap.size + 1
        omega
end Go.Proofs.YtgpohndnkecbeaaDoor
namespace Go.Proofs.YtgpohndnkecbeaaDoor
open Go Go.RowKit Go.Proofs.Sc
theorem below_drewN {B : Nat} {a w : World} (h : Below B a w) (n : Nat) : Below B a (w.drewN n) := ⟨h.os, h.tape, h.output, h.size, h.block⟩
theorem ds_drewN {w : World} {A : Option Addr} {n c : Nat} {l : Dl} (h : DS w A n c l) (k : Nat) : DS (w.drewN k) A n c l := ⟨h.rs, h.wl, h.len, h.cap, h.max⟩
set_option maxRecDepth 100000 in
set_option maxHeartbeats 1000000 in
theorem equal_any (A B : Option Addr) (n c m d : Nat) (l k : List ByteArray) (w : World) (hr : Rs w A n 1 (vs l)) (hq : Rs w B m 1 (vs k)) (hn : n ≤ 140737488355328) :
    Calls Tryd.prog 75 #[.slice A n c, .slice B m d] w fun e w' => e = .returned (.bool (decide (l = k))) ∧ Below w.heap.size w w' := by
  have hll := hr.slen
  have hkk := hq.slen
  by_cases hnm : n = m
  · subst hnm
    go_enter Tryd.func75, Tryd.ntmps75
    go_wp2_with fail
    go_loopw [13] (fun i wr => ListRel w n l k i wr) (fun i _ => n - (intOf i).toNat)
    case atStart => exact ⟨0, by omega, rfl, by omega, Below.refl _ _⟩
    case round =>
      obtain ⟨j, hj, rfl, heq, hB⟩ := hrel
      obtain ⟨w2, rfl⟩ : ∃ w2 : World, w2 = wr := ⟨_, rfl⟩
      by_cases hlt : j < n
      · obtain ⟨g, o, rfl, hc⟩ := (hr.below hB).str hlt
        obtain ⟨g2, o2, rfl, hc2⟩ := (hq.below hB).str hlt
        have hd : decide (j < n) = true := by simp; omega
        go_wp2_with fail
        go_region
        go_wp2_with fail
        · rename_i hx
          have hg : ¬ gs l j = gs k j := fun h => by rw [h] at hx; simp at hx
          go_ret
          exact ⟨by rw [decide_eq_false (fun h => hg (by rw [h]))]; rfl, hB.drew⟩
        · rename_i hx
          have hg : gs l j = gs k j := by
            have h : (gs l j).toList = (gs k j).toList := by simpa using hx
            rw [Lib.toList_data, Lib.toList_data] at h
            exact ByteArray.ext (Array.ext' h)
          refine ⟨⟨j + 1, by omega, by go_num, ?_, hB.drew⟩, by simp [intOf]; omega⟩
          intro i hi
          rcases Nat.lt_or_ge i j with h | h
          · exact heq i h
          · obtain rfl : i = j := by omega
            exact hg
      · obtain rfl : j = n := by omega
        go_wp2_with fail
        go_ret
        refine ⟨?_, hB⟩
        rw [decide_eq_true (list_ext_gs (by omega) (by rw [hll]; exact heq))]; rfl
  · have hne : ((n : Int) != m) = true := by simp; omega
    have hne2 : ¬ (n : Int) = m := by omega
    go_enter Tryd.func75, Tryd.ntmps75
    go_wp2_with fail
    go_ret
    refine ⟨?_, Below.refl _ _⟩
    rw [decide_eq_false (by rintro rfl; omega)]; rfl
set_option maxRecDepth 100000 in
set_option maxHeartbeats 1000000 in
theorem same_any (A B : Option Addr) (n c m d : Nat) (l k : List ByteArray) (w : World) (hr : Rs w A n 1 (vs l)) (hq : Rs w B m 1 (vs k)) (hn : n ≤ 140737488355328) :
    Calls Tryd.prog 37 #[.agg #[.slice A n c], .agg #[.slice B m d]] w fun e w' => e = .returned (.bool (decide (l = k))) ∧ Below w.heap.size w w' := by
  go_enter Tryd.func37, Tryd.ntmps37
  obtain ⟨-, -, hB0⟩ := two_alloc w #[.slice A n c] #[.slice B m d] 34 34
  go_wp2_with fail
  refine (equal_any A B n c m d l k _ (hr.below hB0) (hq.below hB0) hn).mono ?_
  rintro e w1 ⟨rfl, hb1⟩
  have hB1 := hB0.trans (hb1.mono hB0.size)
  go_wp2_with fail
  go_ret
  exact ⟨rfl, hB1⟩
def RSameRel (w : World) (n c d : Nat) (A B : Option Addr) (l k : List ByteArray) (i : Value) (wr : World) : Prop :=
  ∃ j : Nat, j ≤ n ∧ i = .int .i64 j ∧ (∀ i, i < j → gs l i = gs k i) ∧ Bx wr w.heap.size 34 #[.slice A n c] ∧ Bx wr (w.heap.size + 1) 34 #[.slice B n d] ∧ Below w.heap.size w wr
set_option maxRecDepth 100000 in
set_option maxHeartbeats 1000000 in
theorem rsame_any (A B : Option Addr) (n c m d : Nat) (l k : List ByteArray) (w : World) (hr : Rs w A n 1 (vs l)) (hq : Rs w B m 1 (vs k)) (hn : n ≤ 140737488355328) :
    Calls Tryd.prog 44 #[.agg #[.slice A n c], .agg #[.slice B m d]] w fun e w' => e = .returned (.bool (decide (l = k))) ∧ Below w.heap.size w w' := by
  have hll := hr.slen
  have hkk := hq.slen
  go_enter Tryd.func44, Tryd.ntmps44
  obtain ⟨hs0, ht0, hB0⟩ := two_alloc w #[.slice A n c] #[.slice B m d] 34 34
  by_cases hnm : n = m
  · subst hnm
    have hne : ((n : Int) != n) = false := by simp
    go_wp2_with fail
    go_loopw [5] (fun i wr => RSameRel w n c d A B l k i wr) (fun i _ => n - (intOf i).toNat)
    case atStart => exact ⟨0, by omega, rfl, by omega, hs0, ht0, hB0⟩
    case round =>
      obtain ⟨j, hj, rfl, heq, hst, htt, hB⟩ := hrel
      clear hs0 ht0 hB0
      obtain ⟨w2, rfl⟩ : ∃ w2 : World, w2 = wr := ⟨_, rfl⟩
      have s0 : w2.cell? ⟨w.heap.size, 0, none⟩ = some (.slice A n c) := hst.cell 0
      have t0 : w2.cell? ⟨w.heap.size + 1, 0, none⟩ = some (.slice B n d) := htt.cell 0
      by_cases hlt : j < n
      · obtain ⟨g, o, rfl, hc⟩ := (hr.below hB).str hlt
        obtain ⟨g2, o2, rfl, hc2⟩ := (hq.below hB).str hlt
        have hd : decide (j < n) = true := by simp; omega
        have hjn : (j : Int) < (n : Int) := by omega
        have HEQ := Lib.hid heq
        clear heq
        go_wp2_with fail
        go_quiet (fail)
        go_wp2_with fail
        · rename_i hx
          have hg : ¬ gs l j = gs k j := fun h => by rw [h] at hx; simp at hx
          go_ret
          exact ⟨by rw [decide_eq_false (fun h => hg (by rw [h]))]; rfl, below_drewN hB _⟩
        · rename_i hx
          have hg : gs l j = gs k j := by
            have h : (gs l j).toList = (gs k j).toList := by simpa using hx
            rw [Lib.toList_data, Lib.toList_data] at h
            exact ByteArray.ext (Array.ext' h)
          refine ⟨⟨j + 1, by omega, by go_num, ?_, hst.drewN _, htt.drewN _, below_drewN hB _⟩, by simp [intOf]; omega⟩
          intro i hi
          rcases Nat.lt_or_ge i j with h | h
          · exact HEQ.out i h
          · obtain rfl : i = j := by omega
            exact hg
      · obtain rfl : j = n := by omega
        have hle := list_ext_gs (l := l) (k := k) (by omega) (by rw [hll]; exact heq)
        clear heq
        go_wp2_with fail
        go_ret
        refine ⟨?_, hB⟩
        rw [decide_eq_true hle]; rfl
  · have hne : ((n : Int) != m) = true := by simp; omega
    have hne2 : ¬ (n : Int) = m := by omega
    go_wp2_with fail
    go_ret
    refine ⟨?_, hB0⟩
    rw [decide_eq_false (by rintro rfl; omega)]; rfl
def fewP (l : List ByteArray) (most bytes : Nat) : Prop := l.length ≤ most ∧ ∀ x ∈ l, x.size ≤ bytes
instance (l : List ByteArray) (m b : Nat) : Decidable (fewP l m b) := by unfold fewP; infer_instance
def FewRel (w : World) (n c most bytes : Nat) (A : Option Addr) (l : List ByteArray) (i : Value) (wr : World) : Prop :=
  ∃ k : Nat, k ≤ n ∧ k ≤ most + 1 ∧ i = .int .i64 k ∧ (∀ j, j < k → (gs l j).size ≤ bytes) ∧ Bx wr w.heap.size 34 #[.slice A n c] ∧ Below w.heap.size w wr
set_option maxRecDepth 100000 in
set_option maxHeartbeats 1000000 in
theorem few_any (A : Option Addr) (n c most bytes : Nat) (l : List ByteArray) (w : World) (hr : Rs w A n 1 (vs l)) (hn : n ≤ 140737488355328) (hm : most ≤ 1000000) (_hb : bytes ≤ 1000000) :
    Calls Tryd.prog 45 #[.agg #[.slice A n c], .int .i64 (most : Nat), .int .i64 (bytes : Nat)] w fun e w' => e = .returned (.bool (decide (fewP l most bytes))) ∧ Below w.heap.size w w' := by
  have hl := hr.slen
  go_enter Tryd.func45, Tryd.ntmps45
  have hB0 : Below w.heap.size w (w.alloc (.cells #[.slice A n c] 34)) := (Below.refl _ _).alloc (Nat.le_refl _) _
  have hs0 : Bx (w.alloc (.cells #[.slice A n c] 34)) w.heap.size 34 #[.slice A n c] := Bx.new w 34 _
  go_wp2_with fail
  go_loopw [7] (fun i wr => FewRel w n c most bytes A l i wr) (fun i _ => n - (intOf i).toNat)
  case atStart => exact ⟨0, by omega, by omega, rfl, by omega, hs0, hB0⟩
  case round =>
    obtain ⟨k, hk, hkm, rfl, hno, hst, hB⟩ := hrel
    clear hs0 hB0
    obtain ⟨w2, rfl⟩ : ∃ w2 : World, w2 = wr := ⟨_, rfl⟩
    have s0 : w2.cell? ⟨w.heap.size, 0, none⟩ = some (.slice A n c) := hst.cell 0
    have HN := Lib.hid hno
    clear hno
    by_cases hlt : k < n
    · obtain ⟨g, o, rfl, hc⟩ := (hr.below hB).str hlt
      have hd : decide (k < n) = true := by simp; omega
      by_cases hle : k ≤ most
      · have hd2 : decide (k ≤ most) = true := by simp; omega
        have hkl : k < l.length := by omega
        have hmem : gs l k ∈ l := by simp [gs, hkl]
        by_cases hbig : bytes < (gs l k).size
        · have hfin : ¬ fewP l most bytes := fun h => by have := h.2 _ hmem; omega
          obtain ⟨R, hR⟩ : ∃ R, R = gs l k := ⟨_, rfl⟩
          rw [← hR] at hc hbig
          have hd3 : decide (bytes < R.size) = true := by simp; omega
          have HF := Lib.hid hfin
          clear hR hfin hmem
          go_wp2_with fail
          go_ret
          exact ⟨by rw [decide_eq_false HF.out]; rfl, hB⟩
        · have hnext : ∀ j, j < k + 1 → (gs l j).size ≤ bytes := by
            intro j hj
            rcases Nat.lt_or_ge j k with h | h
            · exact HN.out j h
            · obtain rfl : j = k := by omega
              omega
          obtain ⟨R, hR⟩ : ∃ R, R = gs l k := ⟨_, rfl⟩
          rw [← hR] at hc hbig
          have hd3 : decide (bytes < R.size) = false := by simp; omega
          have HX := Lib.hid hnext
          clear hR hnext hmem
          go_wp2_with fail
          exact ⟨⟨k + 1, by omega, by omega, by go_num, HX.out, hst, hB⟩, by simp [intOf]; omega⟩
      · have hd2 : decide (k ≤ most) = false := by simp; omega
        have hfin : ¬ fewP l most bytes := fun h => by have := h.1; omega
        have hd3 : decide (n ≤ most) = false := by simp; omega
        have HF := Lib.hid hfin
        clear hfin
        go_wp2_with fail
        go_ret
        exact ⟨by rw [decide_eq_false HF.out]; rfl, hB⟩
    · obtain rfl : k = n := by omega
      have hd : decide (k < k) = false := by simp
      have hall : decide (fewP l most bytes) = decide (k ≤ most) := by
        have h1 : (fewP l most bytes) ↔ k ≤ most := by
          refine ⟨fun h => by have := h.1; omega, fun h => ⟨by omega, fun x hx => ?_⟩⟩
          obtain ⟨j, hj, rfl⟩ := List.getElem_of_mem hx
          have := HN.out j (by omega)
          simpa [gs, hj] using this
        simp only [h1]
      have HF := Lib.hid hall
      clear hall
      go_wp2_with fail
      go_ret
      exact ⟨by rw [HF.out]; rfl, hB⟩
def RightRel (w : World) (n c : Nat) (A : Option Addr) (l : List ByteArray) (i : Value) (wr : World) : Prop :=
  ∃ k : Nat, k ≤ n ∧ i = .int .i64 k ∧ (∀ a b, b < a → a < k → dg (gs l a) ≠ dg (gs l b)) ∧ DS wr A n c (dgs l) ∧ Below w.heap.size w wr
def RightRel2 (w : World) (n c i : Nat) (A : Option Addr) (l : List ByteArray) (v : Value) (wr : World) : Prop :=
  ∃ k : Nat, k ≤ i ∧ v = .int .i64 k ∧ (∀ b, b < k → dg (gs l i) ≠ dg (gs l b)) ∧ DS wr A n c (dgs l) ∧ Below w.heap.size w wr
set_option maxRecDepth 100000 in
set_option maxHeartbeats 1000000 in
theorem right_any (A : Option Addr) (n c : Nat) (l : List ByteArray) (w : World) (hr : Rs w A n 1 (vs l)) (hn : n ≤ 1000000) (hs : ∀ s ∈ l, s.size ≤ 1000000) :
    Calls Tryd.prog 76 #[.agg #[.slice A n c]] w fun e w' => (∃ b, e = .returned (.bool b) ∧ (b = true ↔ rightP l)) ∧ Below w.heap.size w w' := by
  have hl := hr.slen
  go_enter Tryd.func76, Tryd.ntmps76
  have hB0 : Below w.heap.size w (w.alloc (.cells #[.slice A n c] 34)) := (Below.refl _ _).alloc (Nat.le_refl _) _
  by_cases hbig : 1000 < n
  · have hbi : (1000 : Int) < (n : Int) := by omega
    have hfin : ¬ rightP l := fun h => by have := h.1; omega
    have HF := Lib.hid hfin
    clear hfin
    go_wp2_with fail
    go_ret
    exact ⟨⟨false, rfl, by simpa using HF.out⟩, hB0⟩
  have hbi : (n : Int) ≤ 1000 := by omega
  go_wp2_with fail
  refine (rdigests_any A n c l _ (hr.below hB0) hn hs).mono ?_
  rintro e w1 ⟨v, rfl, hown, hb1⟩
  have hB1 := hB0.trans (hb1.mono hB0.size)
  obtain ⟨A2, c2, rfl, hds⟩ := ds_own hown (dgs_wl l) (by rw [dgs_len]; exact hl)
  clear hown
  go_wp2_with fail
  go_loopw [4] (fun i wr => RightRel w n c2 A2 l i wr) (fun i _ => n - (intOf i).toNat)
  case atStart => exact ⟨0, by omega, rfl, by omega, hds, hB1⟩
  case round =>
    obtain ⟨i, hi, rfl, hno, hds2, hB2⟩ := hrel
    clear hds hB1 hb1
    obtain ⟨w2, rfl⟩ : ∃ w2 : World, w2 = wr := ⟨_, rfl⟩
    have HN := Lib.hid hno
    clear hno
    by_cases hlt : i < n
    · have hd : decide (i < n) = true := by simp; omega
      go_wp2_with fail
      go_loopw [5] (fun k wr => RightRel2 w n c2 i A2 l k wr) (fun k _ => i - (intOf k).toNat)
      case atStart => exact ⟨0, by omega, rfl, by omega, hds2, hB2⟩
      case round =>
        obtain ⟨k, hk, rfl, hno2, hds3, hB3⟩ := hrel
        clear hds2 hB2
        obtain ⟨w3, rfl⟩ : ∃ w3 : World, w3 = wr := ⟨_, rfl⟩
        have HN2 := Lib.hid hno2
        clear hno2
        by_cases hlt2 : k < i
        · obtain ⟨g, o, x0, x1, x2, x3, rfl, hgx, -, c0, c1, c2', c3⟩ := hds3.dig (k := i) hlt
          obtain ⟨g', o', y0, y1, y2, y3, h1, hgy, -, e0, e1, e2, e3⟩ := hds3.dig (k := k) (by omega)
          cases h1
          rw [dgs_get l i (by omega)] at hgx
          rw [dgs_get l k (by omega)] at hgy
          have hd2 : decide (k < i) = true := by simp; omega
          have hin : (i : Int) < (n : Int) := by omega
          have hkn : (k : Int) < (n : Int) := by omega
          have heq := eq_dig x0 x1 x2 x3 y0 y1 y2 y3
          obtain ⟨q, hq⟩ : ∃ q, q = decide ([x0, x1, x2, x3] = [y0, y1, y2, y3]) := ⟨_, rfl⟩
          rw [← hq, ] at heq
          have hq2 : q = true ↔ dg (gs l i) = dg (gs l k) := by rw [hq, hgx, hgy]; simp
          have HQ := Lib.hid hq2
          clear hq hq2 hgx hgy
          cases q with
          | true =>
            have hne : ¬ rightP l := fun h => h.2 i k hlt2 (by omega) (HQ.out.1 rfl)
            have HF := Lib.hid hne
            clear hne
            go_wp2_with fail
            go_quiet (fail)
            go_wp2_with fail
            go_ret
            exact ⟨⟨false, rfl, by simpa using HF.out⟩, below_drewN hB3 _⟩
          | false =>
            have hne : dg (gs l i) ≠ dg (gs l k) := fun h => by have := HQ.out.2 h; cases this
            have HF := Lib.hid hne
            clear hne
            go_wp2_with fail
            go_quiet (fail)
            go_wp2_with fail
            refine ⟨⟨k + 1, by omega, by go_num, ?_, ds_drewN hds3 _, below_drewN hB3 _⟩, by simp [intOf]; omega⟩
            intro b hb
            rcases Nat.lt_or_ge b k with h | h
            · exact HN2.out b h
            · obtain rfl : b = k := by omega
              exact HF.out
        · obtain rfl : k = i := by omega
          have hd2 : decide (k < k) = false := by simp
          have hnext : ∀ a b, b < a → a < k + 1 → dg (gs l a) ≠ dg (gs l b) := by
            intro a b hab ha
            rcases Nat.lt_or_ge a k with h | h
            · exact HN.out a b hab h
            · obtain rfl : a = k := by omega
              exact HN2.out b hab
          have HX := Lib.hid hnext
          clear hnext
          go_wp2_with fail
          exact ⟨⟨k + 1, by omega, by go_num, HX.out, hds3, hB3⟩, by simp [intOf]; omega⟩
    · obtain rfl : i = n := by omega
      have hd : decide (i < i) = false := by simp
      have hfin : rightP l := ⟨by omega, fun a b hab ha => HN.out a b hab (by omega)⟩
      have HF := Lib.hid hfin
      clear hfin
      go_wp2_with fail
      go_ret
      exact ⟨⟨true, rfl, by simpa using HF.out⟩, hB2⟩
end Go.Proofs.YtgpohndnkecbeaaDoor
namespace Go.Proofs.YtgpohndnkecbeaaDoor
open Go Go.RowKit Go.Proofs.Sc
set_option maxRecDepth 100000 in
set_option maxHeartbeats 1000000 in
theorem small_any (A : Option Addr) (n c : Nat) (l : List ByteArray) (w : World) (hr : Rs w A n 1 (vs l)) (hn : n ≤ 140737488355328) :
    Calls Tryd.prog 39 #[.agg #[.slice A n c]] w fun e w' => (∃ b, e = .returned (.bool b) ∧ (b = true ↔ fewP l 20 60 ∧ rightP l)) ∧ Below w.heap.size w w' := by
  have hl := hr.slen
  go_enter Tryd.func39, Tryd.ntmps39
  go_wp2_with fail
  have hB0 : Below w.heap.size w (w.alloc (.cells #[.slice A n c] 34)) := (Below.refl _ _).alloc (Nat.le_refl _) _
  refine (few_any A n c 20 60 l _ (hr.below hB0) hn (by omega) (by omega)).mono ?_
  rintro e w1 ⟨rfl, hb0⟩
  have hb1 := hB0.trans (hb0.mono hB0.size)
  have hs1 : Bx w1 w.heap.size 34 #[.slice A n c] := (Bx.new w 34 _).belowS hb0
  have s1 : w1.cell? ⟨w.heap.size, 0, none⟩ = some (.slice A n c) := hs1.cell 0
  clear hb0
  by_cases hf : fewP l 20 60
  · rw [decide_eq_true hf]
    have hn20 : n ≤ 1000000 := by have := hf.1; omega
    have hsz : ∀ s ∈ l, s.size ≤ 1000000 := fun s h => by have := hf.2 s h; omega
    have HF := Lib.hid hf
    clear hf
    go_wp2_with fail
    refine (right_any A n c l w1 (hr.below hb1) hn20 hsz).mono ?_
    rintro e w2 ⟨⟨b, rfl, hb⟩, hb2⟩
    have hB2 := hb1.trans (hb2.mono hb1.size)
    have HB := Lib.hid hb
    clear hb
    go_wp2_with fail
    go_ret
    exact ⟨⟨b, rfl, by rw [HB.out]; exact ⟨fun h => ⟨HF.out, h⟩, fun h => h.2⟩⟩, hB2⟩
  · rw [decide_eq_false hf]
    have HF := Lib.hid hf
    clear hf
    go_wp2_with fail
    go_ret
    exact ⟨⟨false, rfl, ⟨fun h => (nomatch h), fun h => absurd h.1 HF.out⟩⟩, hb1⟩
theorem get_zero (A : Option Addr) (n c : Nat) (l : List ByteArray) (w : World) (hT : Turns w) (hr : Rs w A n 1 (vs l)) (hn : n ≤ 1000000) (hs : ∀ s ∈ l, s.size ≤ 1000000) :
    Calls Tryd.prog 30 #[.agg #[.slice A n c], .agg #[.int .u32 0, .int .u32 0, .int .u32 0, .int .u32 0]] w fun e w' => e = .returned (.tuple #[.string (getP l [0, 0, 0, 0]).1, .int .i64 (getP l [0, 0, 0, 0]).2]) ∧ Below w.heap.size w w' :=
  get_any A n c l 0 0 0 0 w hT hr hn hs
/-- A head's size, a head's root. -/
theorem head_size (n z0 z1 z2 z3 : Int) (W : World) : (Instr.field 46 (.agg #[.int .i64 n, .int .u32 z0, .int .u32 z1, .int .u32 z2, .int .u32 z3]) 0).run Tryd.prog W = .ok (.int .i64 n) W := by kernel_rfl
theorem head_root (n z0 z1 z2 z3 : Int) (W : World) : (Instr.field 46 (.agg #[.int .i64 n, .int .u32 z0, .int .u32 z1, .int .u32 z2, .int .u32 z3]) 1).run Tryd.prog W = .ok (.agg #[.int .u32 z0, .int .u32 z1, .int .u32 z2, .int .u32 z3]) W := by kernel_rfl
theorem dg_ab : dg ⟨#[97, 98]⟩ ≠ [0, 0, 0, 0] := by
  show dig [97, 98] ≠ _
  decide +kernel
set_option maxRecDepth 100000 in
set_option maxHeartbeats 2000000 in
theorem awake42_any (w : World) (hT : Turns w) :
    Calls Tryd.prog 40 #[] w fun e w' => e = .returned (.bool true) ∧ Below w.heap.size w w' := by
  go_enter Tryd.func40, Tryd.ntmps40
  go_wp2_with fail
  obtain ⟨ab, hab⟩ : ∃ ab : ByteArray, ab = ⟨#[97, 98]⟩ := ⟨_, rfl⟩
  have hadd : addP [] ab = ([ab], 0, 0) := rfl
  have hdne : dg ab ≠ [0, 0, 0, 0] := by rw [hab]; exact dg_ab
  have hsz : ab.size ≤ 1000000 := by rw [hab]; decide
  have hszs : ∀ s ∈ [ab], s.size ≤ 1000000 := fun s h => by rw [List.mem_singleton.1 h]; exact hsz
  have habl : (ab.toList == [97, 98]) = true := by rw [hab, Lib.toList_data]; decide
  rw [← hab]
  refine (add_any none 0 0 [] ab w hT (Rs.nil _ _ _) (by omega) (by omega) (fun _ => rfl) (by simp) hsz).mono ?_
  rintro e w1 ⟨A1, n1, c1, rfl, hnc1, hA1, hr1, hb1⟩
  rw [hadd] at hr1 ⊢
  obtain rfl : n1 = 1 := hr1.slen.symm
  have hT1 := hT.belowS hb1
  have HN := Lib.hid hdne
  have HAB := Lib.hid hab
  clear hadd hdne
  have hab2 : getP [ab] (dg ab) = (ab, 0) := by
    have : findP [ab] (dg ab) = some 0 := by rw [findP, if_pos rfl]
    rw [getP, this]; rfl
  have hz2 : getP [ab] [0, 0, 0, 0] = (ByteArray.empty, 6) := by
    have : findP [ab] [0, 0, 0, 0] = none := by rw [findP, if_neg HN.out]; rfl
    rw [getP, this]
  have HG := Lib.hid hab2
  have HZ := Lib.hid hz2
  clear hab2 hz2
  go_wp2_with fail
  have hs0 : Bx (w1.alloc (.cells #[.slice A1 1 c1] 34)) w1.heap.size 34 #[.slice A1 1 c1] := Bx.new w1 34 _
  have hB0 : Below w.heap.size w (w1.alloc (.cells #[.slice A1 1 c1] 34)) := hb1.alloc hb1.size _
  have hr0 : Rs (w1.alloc (.cells #[.slice A1 1 c1] 34)) A1 1 1 (vs [ab]) := hr1.alloc _
  generalize (w1.alloc (.cells #[.slice A1 1 c1] 34)) = W at hs0 hB0 hr0 ⊢
  obtain ⟨b, hb⟩ : ∃ b, b = w1.heap.size := ⟨_, rfl⟩
  rw [← hb] at hs0 ⊢
  rw [← HAB.out]
  have hTW := hT.belowS hB0
  have s0 : W.cell? ⟨b, 0, none⟩ = some (.slice A1 1 c1) := hs0.cell 0
  clear hT1 hr1 hb1 hb hab
  go_region_held3 (fun X : World => X.cell? ⟨b, 0, none⟩ = some (.slice A1 1 c1)) (go_keep) (first
    | (go_at_call 54; refine (rof_dg ab _ hsz).mono ?_; rintro e w2 ⟨d0, d1, d2, d3, hd, rfl, hb2⟩; have hB2 := hB0.drew.trans (hb2.mono hB0.size); have hs2 := hs0.drew.belowS hb2; have s2 : w2.cell? ⟨b, 0, none⟩ = some (.slice A1 1 c1) := hs2.cell 0; have hr2 := hr0.drew.below hb2; have hT2 := hT.belowS hB2)
    | (go_at_call 30; refine (get_any A1 1 c1 [ab] d0 d1 d2 d3 _ ?_ ?_ (by omega) hszs).mono ?_; exact hT2; exact hr2; rintro e w3 ⟨rfl, hb3⟩; rw [← hd.out, HG.out]; have hB3 := hB2.trans (hb3.mono hB2.size); have hs3 := hs2.belowS hb3; have s3 : w3.cell? ⟨b, 0, none⟩ = some (.slice A1 1 c1) := hs3.cell 0; have hr3 := hr2.below hb3; have hT3 := hT.belowS hB3))
  all_goals
    clear s0 s2 hs0 hs2 hr0 hr2 hT2 hTW hb2 hb3
    go_wp2_with fail
    refine (get_zero A1 1 c1 [ab] w3 hT3 hr3 (by omega) hszs).mono ?_
    rintro e w4 ⟨rfl, hb4⟩
    rw [HZ.out]
    have hB4 := hB3.trans (hb4.mono hB3.size)
    have hs4 := hs3.belowS hb4
    have s4 : w4.cell? ⟨b, 0, none⟩ = some (.slice A1 1 c1) := hs4.cell 0
    have hr4 := hr3.below hb4
    have hT4 := hT.belowS hB4
    clear hs3 s3 hr3 hT3 hb4
    go_wp2_with fail
    refine (root_any none 0 0 [] w4 hT4 (Rs.nil _ _ _) (by omega) (by simp)).mono ?_
    rintro e w5 ⟨x0, x1, x2, x3, hx, rfl, hb5⟩
    have hB5 := hB4.trans (hb5.mono hB4.size)
    have hs5 := hs4.belowS hb5
    have s5 : w5.cell? ⟨b, 0, none⟩ = some (.slice A1 1 c1) := hs5.cell 0
    have hr5 := hr4.below hb5
    clear hs4 s4 hr4 hT4 hb5
    go_wp2_with fail
    refine (rof_dg ⟨#[]⟩ w5 (by decide)).mono ?_
    rintro e w6 ⟨y0, y1, y2, y3, hy, rfl, hb6⟩
    have hB6 := hB5.trans (hb6.mono hB5.size)
    have hs6 := hs5.belowS hb6
    have s6 : w6.cell? ⟨b, 0, none⟩ = some (.slice A1 1 c1) := hs6.cell 0
    have hr6 := hr5.below hb6
    have hT6 := hT.belowS hB6
    have hxy : [x0, x1, x2, x3] = [y0, y1, y2, y3] := by
      rw [← hx.out, ← hy.out]
      show root [] = _
      rw [root_nil]; rfl
    simp only [List.cons.injEq, and_true] at hxy
    obtain ⟨rfl, rfl, rfl, rfl⟩ := hxy
    have heq := eq_dig x0 x1 x2 x3 x0 x1 x2 x3
    rw [decide_eq_true rfl] at heq
    clear hs5 s5 hr5 hb6
    go_wp2_with fail
    refine (head_any A1 1 c1 [ab] w6 hT6 hr6 (by omega) hszs).mono ?_
    rintro e w7 ⟨z0, z1, z2, z3, hz, rfl, hb7⟩
    have hB7 := hB6.trans (hb7.mono hB6.size)
    clear heq hs6 s6 hr6 hT6 hb7
    have hfl := head_size 1 z0 z1 z2 z3
    go_wp2_with fail
    go_ret
    exact ⟨rfl, hB7⟩
end Go.Proofs.YtgpohndnkecbeaaDoor
