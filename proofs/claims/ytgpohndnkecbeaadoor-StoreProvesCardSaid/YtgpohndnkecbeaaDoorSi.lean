/- Contracts: store.Add, ref42.Add. -/
import Derived.Test.YtgpohndnkecbeaaDoorSg
import Derived.Deep.RegionHeld3
namespace Go.Proofs.YtgpohndnkecbeaaDoor
open Go Go.RowKit Go.Proofs.Sc
theorem rs_far {w : World} {A : Option Addr} {n size : Nat} {xs : List Value} (h : Rs w A n size xs) {p : Addr} (hp : ∀ a, A = some a → a.block ≠ p.block) (u : Value) : Rs (w.setCell p u) A n size xs :=
  ⟨h.1, fun hn => by
    obtain ⟨g, o, e, hc⟩ := h.2 hn
    refine ⟨g, o, e, fun j v hv => ?_⟩
    have hne := hp _ e
    rw [World.cell?_setCell_other]
    · exact hc j v hv
    · intro e2
      exact hne (by rw [e2])⟩
/-- Results: a struct in a cell of its own, and two, one more. -/
theorem results_row3 {P : Program} {fn : Func} {p u v : Tmp} {ty : TypeId} {x y : Value} (h : fn.results = #[.cell p ty, .tmp u, .tmp v]) (tmps : Array Value) (w : World) (g : Nat) (t : TypeId) (cs : Array Value) (fr : Nat × Nat) (d : TypeDesc)
    (hp : tmps.getD p undef = .pointer (some ⟨g, 0, none⟩)) (hx : tmps.getD u undef = x) (hy : tmps.getD v undef = y) (hg : w.heap[g]? = some (.cells cs t fr))
    (hu : P.underlying ty = some d) (hd : (match d with | .struct _ | .array _ _ => true | _ => false) = true) (hi : (P.info? ty).map (·.size) = some cs.size) :
    (results fn tmps).run P w = .ok (.tuple #[.agg cs, x, y]) w := by
  have hp' : tmps[p]?.getD undef = .pointer (some ⟨g, 0, none⟩) := by simpa using hp
  have hx' : tmps[u]?.getD undef = x := by simpa using hx
  have hy' : tmps[v]?.getD undef = y := by simpa using hy
  simp [results, h, hp', hx', hy', asAddr, run_loadVar_row w g t ty cs fr d hg hu hd hi]
theorem results_row2 {P : Program} {fn : Func} {p u : Tmp} {ty : TypeId} {x : Value} (h : fn.results = #[.cell p ty, .tmp u]) (tmps : Array Value) (w : World) (g : Nat) (t : TypeId) (cs : Array Value) (fr : Nat × Nat) (d : TypeDesc)
    (hp : tmps.getD p undef = .pointer (some ⟨g, 0, none⟩)) (hx : tmps.getD u undef = x) (hg : w.heap[g]? = some (.cells cs t fr))
    (hu : P.underlying ty = some d) (hd : (match d with | .struct _ | .array _ _ => true | _ => false) = true) (hi : (P.info? ty).map (·.size) = some cs.size) :
    (results fn tmps).run P w = .ok (.tuple #[.agg cs, x]) w := by
  have hp' : tmps[p]?.getD undef = .pointer (some ⟨g, 0, none⟩) := by simpa using hp
  have hx' : tmps[u]?.getD undef = x := by simpa using hx
  simp [results, h, hp', hx', asAddr, run_loadVar_row w g t ty cs fr d hg hu hd hi]
/-- What Add hands back. -/
def AddIs (l : List ByteArray) (a : ByteArray) (w : World) (e : Ending) (w' : World) : Prop :=
  ∃ (A : Option Addr) (n c : Nat), e = .returned (.tuple #[.agg #[.slice A n c], .int .i64 (addP l a).2.1, .int .i64 (addP l a).2.2]) ∧ n ≤ c ∧ (A = none → c = 0) ∧ Rs w' A n 1 (vs (addP l a).1) ∧ Below w.heap.size w w'
set_option maxRecDepth 100000 in
set_option maxHeartbeats 1000000 in
theorem add_any (A : Option Addr) (n c : Nat) (l : List ByteArray) (a : ByteArray) (w : World) (hT : Turns w) (hr : Rs w A n 1 (vs l)) (hn : n ≤ 100000) (hc : n ≤ c) (hA : A = none → c = 0) (hs : ∀ s ∈ l, s.size ≤ 1000000) (ha : a.size ≤ 1000000) :
    Calls Tryd.prog 41 #[.agg #[.slice A n c], .string a] w fun e w' => AddIs l a w e w' := by
  have hl := hr.slen
  have hn6 : n ≤ 1000000 := by omega
  obtain ⟨hs0, hr0, hB0⟩ := two_alloc w #[.slice A n c] #[.slice none 0 0] 34 34
  go_enter Tryd.func41, Tryd.ntmps41
  go_wp2_with fail
  generalize ((w.alloc (.cells #[.slice A n c] 34)).alloc (.cells #[.slice none 0 0] 34)) = W at hs0 hr0 hB0 ⊢
  have hTW : Turns W := hT.belowS hB0
  have hrW := hr.below hB0
  have s0 : W.cell? ⟨w.heap.size, 0, none⟩ = some (.slice A n c) := hs0.cell 0
  go_region_held3 (fun X : World => X.cell? ⟨w.heap.size, 0, none⟩ = some (.slice A n c)) (go_keep) (first
    | (go_at_call 29; refine (of_dg a _ ?_ ha).mono ?_; exact hTW; rintro e w1 ⟨d0, d1, d2, d3, hd, rfl, hb1⟩; have hB1 := hB0.drew.trans (hb1.mono hB0.size); have hs1 := hs0.drew.belowS hb1; have hr1 := hr0.drew.belowS hb1; have s1 : w1.cell? ⟨w.heap.size, 0, none⟩ = some (.slice A n c) := hs1.cell 0; have hT1 : Turns w1 := hT.belowS hB1; have hrr1 := hr.below hB1)
    | (go_at_call 67; refine (find_any A n c l d0 d1 d2 d3 _ ?_ ?_ hn6 hs).mono ?_; exact hT1; exact hrr1; rintro e w2 ⟨rfl, hb2⟩; have hB2 := hB1.trans (hb2.mono hB1.size); have hs2 := hs1.belowS hb2; have hr2 := hr1.belowS hb2; have s2 : w2.cell? ⟨w.heap.size, 0, none⟩ = some (.slice A n c) := hs2.cell 0))
  have q2 : w2.cell? ⟨w.heap.size + 1, 0, none⟩ = some (.slice none 0 0) := hr2.cell 0
  have f2 := hr2.frozen 0
  have hrs2 := hr.below hB2
  clear hb1 s1 hT1 hrr1 s0 hTW hrW
  rw [← hd.out]
  clear hs0 hr0 hB0 hs1 hr1
  rcases addP_cases l a with ⟨i, hf, hi, hg, hadd⟩ | ⟨i, hf, hi, hg, hadd⟩ | ⟨hf, hlen, hadd⟩ | ⟨hf, hlen, hadd⟩
  · rw [hf]
    simp only [findI]
    obtain ⟨g, o, rfl, hcc⟩ := hrs2.str (k := i) (by omega)
    rw [hg] at hcc
    have hin : (i : Int) < (n : Int) := by omega
    have HADD := Lib.hid hadd
    have hne : (a.toList != a.toList) = false := by simp
    clear hf hg hadd
    go_wp2_with fail
    have hfin : Bx (w2.setCell ⟨w.heap.size + 1, 0, none⟩ (Value.slice (some ⟨g, o, none⟩) n c)) (w.heap.size + 1) 34 #[Value.slice (some ⟨g, o, none⟩) n c] := hr2.set 0 _
    refine bodyPost_ret (v := .tuple #[.agg #[Value.slice (some ⟨g, o, none⟩) n c], .int .i64 ((i : Nat) : Int), .int .i64 0]) (results_row3 rfl _ _ (w.heap.size + 1) 34 _ (0, 0) _ rfl rfl rfl hfin Tryd.underlying34 rfl (by kernel_rfl)) rfl ⟨_, _, _, by rw [HADD.out]; rfl, hc, hA, ?_, hB2.setCell (by simp) _⟩
    rw [HADD.out]
    exact hr.below (hB2.setCell (by simp) _)
  · rw [hf]
    simp only [findI]
    obtain ⟨g, o, rfl, hcc⟩ := hrs2.str (k := i) (by omega)
    have hin : (i : Int) < (n : Int) := by omega
    have HADD := Lib.hid hadd
    obtain ⟨R, hR⟩ : ∃ R, R = gs l i := ⟨_, rfl⟩
    rw [← hR] at hcc hg
    have hne : (R.toList == a.toList) = false := by
      rw [Lib.toList_data, Lib.toList_data]
      have : ¬ R.data.toList = a.data.toList := fun h => hg (ba_ext h)
      simpa using this
    clear hf hg hadd hR
    go_wp2_with fail
    have hfin : Bx (w2.setCell ⟨w.heap.size + 1, 0, none⟩ (Value.slice none 0 0)) (w.heap.size + 1) 34 #[Value.slice none 0 0] := hr2.set 0 _
    refine bodyPost_ret (v := .tuple #[.agg #[Value.slice none 0 0], .int .i64 (0), .int .i64 8]) (results_row3 rfl _ _ (w.heap.size + 1) 34 _ (0, 0) _ rfl rfl rfl hfin Tryd.underlying34 rfl (by kernel_rfl)) rfl ⟨_, _, _, by rw [HADD.out]; rfl, Nat.le_refl _, fun _ => rfl, ?_, hB2.setCell (by simp) _⟩
    rw [HADD.out]
    exact Rs.nil _ _ _
  · rw [hf]
    simp only [findI]
    have hnl : (1000 : Int) ≤ (n : Int) := by omega
    have HADD := Lib.hid hadd
    clear hf hadd hlen
    go_wp2_with fail
    have hfin : Bx (w2.setCell ⟨w.heap.size + 1, 0, none⟩ (Value.slice none 0 0)) (w.heap.size + 1) 34 #[Value.slice none 0 0] := hr2.set 0 _
    refine bodyPost_ret (v := .tuple #[.agg #[Value.slice none 0 0], .int .i64 (0), .int .i64 2]) (results_row3 rfl _ _ (w.heap.size + 1) 34 _ (0, 0) _ rfl rfl rfl hfin Tryd.underlying34 rfl (by kernel_rfl)) rfl ⟨_, _, _, by rw [HADD.out]; rfl, Nat.le_refl _, fun _ => rfl, ?_, hB2.setCell (by simp) _⟩
    rw [HADD.out]
    exact Rs.nil _ _ _
  · rw [hf]
    simp only [findI]
    have hnl : (n : Int) < 1000 := by omega
    have HADD := Lib.hid hadd
    clear hf hadd hlen
    go_wp2_with fail
    have hB2s := hB2.size
    go_region_held3 (fun X : World => X.cell? ⟨w.heap.size, 0, none⟩ = some (.slice A n c)) (go_keep) (first
      | (go_at_call 74; refine (with_any A n c l a _ ?_ hn6 hc hA).mono ?_; exact hrs2; rintro e w3 ⟨v, rfl, A3, n3, c3, rfl, hnc3, hA3, hrs3, hfr3, hb3⟩; have hB3 := hB2.drew.trans (hb3.mono hB2s); have hs3 := hs2.drew.belowS hb3; have hr3 := hr2.drew.belowS hb3; have s3 : w3.cell? ⟨w.heap.size, 0, none⟩ = some (.slice A n c) := hs3.cell 0; have q3 : w3.cell? ⟨w.heap.size + 1, 0, none⟩ = some (.slice none 0 0) := hr3.cell 0; have f3 := hr3.frozen 0))
    all_goals
      go_wp2_with fail
      have hfin : Bx (w3.setCell ⟨w.heap.size + 1, 0, none⟩ (.slice A3 n3 c3)) (w.heap.size + 1) 34 #[.slice A3 n3 c3] := hr3.set 0 _
      have hsz2 := hr2.lt
      refine bodyPost_ret (v := .tuple #[.agg #[.slice A3 n3 c3], .int .i64 (n : Nat), .int .i64 0]) (results_row3 rfl _ _ (w.heap.size + 1) 34 _ (0, 0) _ rfl rfl rfl hfin Tryd.underlying34 rfl (by kernel_rfl)) rfl ⟨A3, n3, c3, by rw [HADD.out, hl]; rfl, hnc3, hA3, ?_, hB3.setCell (by simp) _⟩
      rw [HADD.out]
      refine rs_far hrs3 (fun a ha => ?_) _
      have h4 : w2.heap.size ≤ a.block := hfr3 a ha
      show a.block ≠ w.heap.size + 1
      omega
end Go.Proofs.YtgpohndnkecbeaaDoor
