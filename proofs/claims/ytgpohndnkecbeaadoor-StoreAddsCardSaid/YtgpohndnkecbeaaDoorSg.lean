/- Contracts: store.Root, Head, Prove, and the reference's. -/
import Derived.Test.YtgpohndnkecbeaaDoorSf
import Derived.Deep.RegionHeld3
namespace Go.Proofs.YtgpohndnkecbeaaDoor
open Go Go.RowKit Go.Proofs.Sc
theorem two_alloc (w : World) (C D : Array Value) (t u : TypeId) :
    Bx ((w.alloc (.cells C t)).alloc (.cells D u)) w.heap.size t C ∧ Bx ((w.alloc (.cells C t)).alloc (.cells D u)) (w.heap.size + 1) u D ∧ Below w.heap.size w ((w.alloc (.cells C t)).alloc (.cells D u)) := by
  refine ⟨(Bx.new w t C).alloc _, ?_, ((Below.refl _ _).alloc (Nat.le_refl _) _).alloc (by simp) _⟩
  have := Bx.new (w.alloc (.cells C t)) u D
  rw [World.size_alloc] at this
  exact this
/-- What owns digests is a slice of digests. -/
theorem ds_own {w : World} {B n : Nat} {v : Value} {l : Dl} (h : w.ownsRow B 39 4 v n (vd l)) (hw : Wl l) (hl : l.length = n) : ∃ A c, v = .slice A n c ∧ DS w A n c l := by
  obtain ⟨A, c, rfl, h1, h2⟩ := own_slice_cap h
  exact ⟨A, c, rfl, Rs.of_own h, hw, hl, h1, h2⟩
set_option maxRecDepth 100000 in
set_option maxHeartbeats 1000000 in
theorem root_any (A : Option Addr) (n c : Nat) (l : List ByteArray) (w : World) (hT : Turns w) (hr : Rs w A n 1 (vs l)) (hn : n ≤ 1000000) (hs : ∀ s ∈ l, s.size ≤ 1000000) :
    Calls Tryd.prog 49 #[.agg #[.slice A n c]] w fun e w' => RootIs (dgs l) w e w' := by
  have hl := hr.slen
  go_enter Tryd.func49, Tryd.ntmps49
  obtain ⟨-, hr0, hB0⟩ := two_alloc w #[.slice A n c] (wds [0, 0, 0, 0]) 34 39
  go_wp2_with fail
  refine (digests_any A n c l _ (hT.belowS hB0) (hr.below hB0) hn hs).mono ?_
  rintro e w1 ⟨v, rfl, hown, hb1⟩
  have hB1 := hB0.trans (hb1.mono hB0.size)
  have hr1 := hr0.belowS hb1
  obtain ⟨A2, c2, rfl, hds⟩ := ds_own hown (dgs_wl l) (by rw [dgs_len]; exact hl)
  clear hr0 hown
  go_wp2_with fail
  refine (mroot_any n (dgs l) A2 n c2 _ (Nat.le_refl _) hn hds (hT.belowS hB1)).mono ?_
  rintro e w2 ⟨d0, d1, d2, d3, hd, rfl, hb2⟩
  have hB2 := hB1.trans (hb2.mono hB1.size)
  have hr2 := hr1.belowS hb2
  obtain ⟨q0, q1, q2, q3⟩ := hr2.w4c
  obtain ⟨f0, f1, f2, f3⟩ := hr2.w4f
  go_wp2_with fail
  have hfin := hr2.set4 d0 d1 d2 d3
  refine bodyPost_ret (v := .agg (wds [d0, d1, d2, d3])) (results_cell_row rfl _ _ (w.heap.size + 1) 39 _ (0, 0) _ rfl hfin Tryd.underlying39 rfl (by kernel_rfl)) rfl ⟨d0, d1, d2, d3, hd, rfl, below_set4 hB2 (Nat.le_add_right _ _) _ _ _ _⟩
set_option maxRecDepth 100000 in
set_option maxHeartbeats 1000000 in
theorem rsroot_any (A : Option Addr) (n c : Nat) (l : List ByteArray) (w : World) (hr : Rs w A n 1 (vs l)) (hn : n ≤ 1000000) (hs : ∀ s ∈ l, s.size ≤ 1000000) :
    Calls Tryd.prog 52 #[.agg #[.slice A n c]] w fun e w' => RootIs (dgs l) w e w' := by
  have hl := hr.slen
  go_enter Tryd.func52, Tryd.ntmps52
  obtain ⟨-, hr0, hB0⟩ := two_alloc w #[.slice A n c] (wds [0, 0, 0, 0]) 34 39
  go_wp2_with fail
  refine (rdigests_any A n c l _ (hr.below hB0) hn hs).mono ?_
  rintro e w1 ⟨v, rfl, hown, hb1⟩
  have hB1 := hB0.trans (hb1.mono hB0.size)
  have hr1 := hr0.belowS hb1
  obtain ⟨A2, c2, rfl, hds⟩ := ds_own hown (dgs_wl l) (by rw [dgs_len]; exact hl)
  clear hr0 hown
  go_wp2_with fail
  refine (rroot_any n (dgs l) A2 n c2 _ (Nat.le_refl _) hn hds).mono ?_
  rintro e w2 ⟨d0, d1, d2, d3, hd, rfl, hb2⟩
  have hB2 := hB1.trans (hb2.mono hB1.size)
  have hr2 := hr1.belowS hb2
  obtain ⟨q0, q1, q2, q3⟩ := hr2.w4c
  obtain ⟨f0, f1, f2, f3⟩ := hr2.w4f
  go_wp2_with fail
  have hfin := hr2.set4 d0 d1 d2 d3
  refine bodyPost_ret (v := .agg (wds [d0, d1, d2, d3])) (results_cell_row rfl _ _ (w.heap.size + 1) 39 _ (0, 0) _ rfl hfin Tryd.underlying39 rfl (by kernel_rfl)) rfl ⟨d0, d1, d2, d3, hd, rfl, below_set4 hB2 (Nat.le_add_right _ _) _ _ _ _⟩
def HeadIs (n : Nat) (l : Dl) (w : World) (e : Ending) (w' : World) : Prop :=
  ∃ d0 d1 d2 d3 : Nat, Hid (root l = [d0, d1, d2, d3]) ∧ e = .returned (.agg #[.int .i64 n, .int .u32 d0, .int .u32 d1, .int .u32 d2, .int .u32 d3]) ∧ Below w.heap.size w w'
set_option maxRecDepth 100000 in
set_option maxHeartbeats 1000000 in
theorem head_any (A : Option Addr) (n c : Nat) (l : List ByteArray) (w : World) (hT : Turns w) (hr : Rs w A n 1 (vs l)) (hn : n ≤ 1000000) (hs : ∀ s ∈ l, s.size ≤ 1000000) :
    Calls Tryd.prog 32 #[.agg #[.slice A n c]] w fun e w' => HeadIs n (dgs l) w e w' := by
  have hl := hr.slen
  go_enter Tryd.func32, Tryd.ntmps32
  obtain ⟨hs0, hr0, hB0⟩ := two_alloc w #[.slice A n c] #[.int .i64 0, .int .u32 0, .int .u32 0, .int .u32 0, .int .u32 0] 34 46
  go_wp2_with fail
  generalize ((w.alloc (.cells #[.slice A n c] 34)).alloc (.cells #[.int .i64 0, .int .u32 0, .int .u32 0, .int .u32 0, .int .u32 0] 46)) = W at hs0 hr0 hB0 ⊢
  have hrW := hr.below hB0
  have hTW : Turns W := hT.belowS hB0
  have s0 : W.cell? ⟨w.heap.size, 0, none⟩ = some (.slice A n c) := hs0.cell 0
  have k0 : W.cell? ⟨w.heap.size + 1, 0, none⟩ = some (.int .i64 0) := hr0.cell 0
  go_region_held3 (fun X : World => X.cell? ⟨w.heap.size, 0, none⟩ = some (.slice A n c)) (go_keep) (first
    | (go_at_call 49; refine (root_any A n c l _ ?_ ?_ hn hs).mono ?_; exact hTW; exact hrW; rintro e w1 ⟨d0, d1, d2, d3, hd, rfl, hb1⟩; have hs1 := hs0.drew.belowS hb1; have s1 : w1.cell? ⟨w.heap.size, 0, none⟩ = some (.slice A n c) := hs1.cell 0; have hr1 := hr0.drew.belowS hb1; have hB1 := hB0.drew.trans (hb1.mono hB0.size); have q0 : w1.cell? ⟨w.heap.size + 1, 0, none⟩ = some (.int .i64 0) := hr1.cell 0; have q1 : w1.cell? ⟨w.heap.size + 1, 1, none⟩ = some (.int .u32 0) := hr1.cell 1; have q2 : w1.cell? ⟨w.heap.size + 1, 2, none⟩ = some (.int .u32 0) := hr1.cell 2; have q3 : w1.cell? ⟨w.heap.size + 1, 3, none⟩ = some (.int .u32 0) := hr1.cell 3; have q4 : w1.cell? ⟨w.heap.size + 1, 4, none⟩ = some (.int .u32 0) := hr1.cell 4; have f0 := hr1.frozen 0; have f1 := hr1.frozen 1; have f2 := hr1.frozen 2; have f3 := hr1.frozen 3; have f4 := hr1.frozen 4))
  all_goals
    go_wp2_with fail
    have hfin := ((((hr1.set 0 (.int .i64 (n : Int))).set 1 (.int .u32 (d0 : Int))).set 2 (.int .u32 (d1 : Int))).set 3 (.int .u32 (d2 : Int))).set 4 (.int .u32 (d3 : Int))
    have hx : ∀ j, w.heap.size ≤ (⟨w.heap.size + 1, j, none⟩ : Addr).block := fun j => by simp
    refine bodyPost_ret (v := .agg #[.int .i64 (n : Int), .int .u32 (d0 : Int), .int .u32 (d1 : Int), .int .u32 (d2 : Int), .int .u32 (d3 : Int)]) (results_cell_row rfl _ _ (w.heap.size + 1) 46 _ (0, 0) _ rfl hfin Tryd.underlying46 rfl (by kernel_rfl)) rfl ⟨d0, d1, d2, d3, hd, rfl, ?_⟩
    exact ((((hB1.setCell (hx 0) _).setCell (hx 1) _).setCell (hx 2) _).setCell (hx 3) _).setCell (hx 4) _
set_option maxRecDepth 100000 in
set_option maxHeartbeats 1000000 in
theorem rhead_any (A : Option Addr) (n c : Nat) (l : List ByteArray) (w : World) (hr : Rs w A n 1 (vs l)) (hn : n ≤ 1000000) (hs : ∀ s ∈ l, s.size ≤ 1000000) :
    Calls Tryd.prog 53 #[.agg #[.slice A n c]] w fun e w' => HeadIs n (dgs l) w e w' := by
  have hl := hr.slen
  go_enter Tryd.func53, Tryd.ntmps53
  obtain ⟨hs0, hr0, hB0⟩ := two_alloc w #[.slice A n c] #[.int .i64 0, .int .u32 0, .int .u32 0, .int .u32 0, .int .u32 0] 34 46
  go_wp2_with fail
  generalize ((w.alloc (.cells #[.slice A n c] 34)).alloc (.cells #[.int .i64 0, .int .u32 0, .int .u32 0, .int .u32 0, .int .u32 0] 46)) = W at hs0 hr0 hB0 ⊢
  have hrW := hr.below hB0
  have s0 : W.cell? ⟨w.heap.size, 0, none⟩ = some (.slice A n c) := hs0.cell 0
  have k0 : W.cell? ⟨w.heap.size + 1, 0, none⟩ = some (.int .i64 0) := hr0.cell 0
  go_region_held3 (fun X : World => X.cell? ⟨w.heap.size, 0, none⟩ = some (.slice A n c)) (go_keep) (first
    | (go_at_call 52; refine (rsroot_any A n c l _ ?_ hn hs).mono ?_; exact hrW; rintro e w1 ⟨d0, d1, d2, d3, hd, rfl, hb1⟩; have hs1 := hs0.drew.belowS hb1; have s1 : w1.cell? ⟨w.heap.size, 0, none⟩ = some (.slice A n c) := hs1.cell 0; have hr1 := hr0.drew.belowS hb1; have hB1 := hB0.drew.trans (hb1.mono hB0.size); have q0 : w1.cell? ⟨w.heap.size + 1, 0, none⟩ = some (.int .i64 0) := hr1.cell 0; have q1 : w1.cell? ⟨w.heap.size + 1, 1, none⟩ = some (.int .u32 0) := hr1.cell 1; have q2 : w1.cell? ⟨w.heap.size + 1, 2, none⟩ = some (.int .u32 0) := hr1.cell 2; have q3 : w1.cell? ⟨w.heap.size + 1, 3, none⟩ = some (.int .u32 0) := hr1.cell 3; have q4 : w1.cell? ⟨w.heap.size + 1, 4, none⟩ = some (.int .u32 0) := hr1.cell 4; have f0 := hr1.frozen 0; have f1 := hr1.frozen 1; have f2 := hr1.frozen 2; have f3 := hr1.frozen 3; have f4 := hr1.frozen 4))
  all_goals
    go_wp2_with fail
    have hfin := ((((hr1.set 0 (.int .i64 (n : Int))).set 1 (.int .u32 (d0 : Int))).set 2 (.int .u32 (d1 : Int))).set 3 (.int .u32 (d2 : Int))).set 4 (.int .u32 (d3 : Int))
    have hx : ∀ j, w.heap.size ≤ (⟨w.heap.size + 1, j, none⟩ : Addr).block := fun j => by simp
    refine bodyPost_ret (v := .agg #[.int .i64 (n : Int), .int .u32 (d0 : Int), .int .u32 (d1 : Int), .int .u32 (d2 : Int), .int .u32 (d3 : Int)]) (results_cell_row rfl _ _ (w.heap.size + 1) 46 _ (0, 0) _ rfl hfin Tryd.underlying46 rfl (by kernel_rfl)) rfl ⟨d0, d1, d2, d3, hd, rfl, ?_⟩
    exact ((((hB1.setCell (hx 0) _).setCell (hx 1) _).setCell (hx 2) _).setCell (hx 3) _).setCell (hx 4) _
/-- A proof of what has a digest: the number, the proof, the error. -/
def proveP (l : List ByteArray) (d : List Nat) : Nat × Dl × Nat :=
  match findP l d with
  | some i => (i, way (dgs l) i, 0)
  | none => (0, [], 6)
def ProveIs (l : List ByteArray) (d : List Nat) (w : World) (e : Ending) (w' : World) : Prop :=
  ∃ v, e = .returned (.tuple #[.int .i64 (proveP l d).1, v, .int .i64 (proveP l d).2.2]) ∧ w'.ownsRow w.heap.size 39 4 v (proveP l d).2.1.length (vd (proveP l d).2.1) ∧ Below w.heap.size w w'
set_option maxRecDepth 100000 in
set_option maxHeartbeats 1000000 in
theorem sprove_any (A : Option Addr) (n c : Nat) (l : List ByteArray) (d0 d1 d2 d3 : Nat) (w : World) (hT : Turns w) (hr : Rs w A n 1 (vs l)) (hn : n ≤ 1000000) (hs : ∀ s ∈ l, s.size ≤ 1000000) :
    Calls Tryd.prog 31 #[.agg #[.slice A n c], .agg #[.int .u32 d0, .int .u32 d1, .int .u32 d2, .int .u32 d3]] w fun e w' => ProveIs l [d0, d1, d2, d3] w e w' := by
  have hl := hr.slen
  go_enter Tryd.func31, Tryd.ntmps31
  obtain ⟨hs0, -, hB0⟩ := two_alloc w #[.slice A n c] (wds [d0, d1, d2, d3]) 34 39
  go_wp2_with fail
  refine (find_any A n c l d0 d1 d2 d3 _ (hT.belowS hB0) (hr.below hB0) hn hs).mono ?_
  rintro e w1 ⟨rfl, hb1⟩
  have hB1 := hB0.trans (hb1.mono hB0.size)
  have hs1 := hs0.belowS hb1
  have s1 : w1.cell? ⟨w.heap.size, 0, none⟩ = some (.slice A n c) := hs1.cell 0
  cases hf : findP l [d0, d1, d2, d3] with
  | none =>
    have HG : Hid (proveP l [d0, d1, d2, d3] = (0, [], 6)) := by show proveP _ _ = _; rw [proveP, hf]
    simp only [findI]
    clear hf hs0 hB0
    go_wp2_with fail
    go_ret3
    exact ⟨.slice none 0 0, by rw [HG.out]; rfl, by rw [HG.out]; exact World.ownsRow_nil _ _ _ _, hB1⟩
  | some i =>
    have HG : Hid (proveP l [d0, d1, d2, d3] = (i, way (dgs l) i, 0)) := by show proveP _ _ = _; rw [proveP, hf]
    have hi := (findP_some hf).1
    simp only [findI]
    have hrA := hr.below hB1
    clear hf hs0 hB0
    go_wp2_with fail
    refine (digests_any A n c l w1 (hT.belowS hB1) hrA hn hs).mono ?_
    rintro e w2 ⟨v, rfl, hown, hb2⟩
    have hB2 := hB1.trans (hb2.mono hB1.size)
    obtain ⟨A2, c2, rfl, hds⟩ := ds_own hown (dgs_wl l) (by rw [dgs_len]; exact hl)
    clear hown
    go_wp2_with fail
    refine (mprove_any (dgs l) A2 n c2 i w2 hn (by omega) hds (hT.belowS hB2)).mono ?_
    rintro e w3 ⟨v, rfl, hown, hb3⟩
    have hB3 := hB2.trans (hb3.mono hB2.size)
    go_wp2_with fail
    go_ret3
    exact ⟨v, by rw [HG.out]; rfl, by rw [HG.out]; exact hown.mono hB2.size, hB3⟩
set_option maxRecDepth 100000 in
set_option maxHeartbeats 1000000 in
theorem rsprove_any (A : Option Addr) (n c : Nat) (l : List ByteArray) (d0 d1 d2 d3 : Nat) (w : World) (hr : Rs w A n 1 (vs l)) (hn : n ≤ 1000000) (hs : ∀ s ∈ l, s.size ≤ 1000000) :
    Calls Tryd.prog 51 #[.agg #[.slice A n c], .agg #[.int .u32 d0, .int .u32 d1, .int .u32 d2, .int .u32 d3]] w fun e w' => ProveIs l [d0, d1, d2, d3] w e w' := by
  have hl := hr.slen
  go_enter Tryd.func51, Tryd.ntmps51
  obtain ⟨hs0, -, hB0⟩ := two_alloc w #[.slice A n c] (wds [d0, d1, d2, d3]) 34 39
  go_wp2_with fail
  refine (rfind_any A n c l d0 d1 d2 d3 _ (hr.below hB0) hn hs).mono ?_
  rintro e w1 ⟨rfl, hb1⟩
  have hB1 := hB0.trans (hb1.mono hB0.size)
  have hs1 := hs0.belowS hb1
  have s1 : w1.cell? ⟨w.heap.size, 0, none⟩ = some (.slice A n c) := hs1.cell 0
  cases hf : findP l [d0, d1, d2, d3] with
  | none =>
    have HG : Hid (proveP l [d0, d1, d2, d3] = (0, [], 6)) := by show proveP _ _ = _; rw [proveP, hf]
    simp only [findI]
    clear hf hs0 hB0
    go_wp2_with fail
    go_ret3
    exact ⟨.slice none 0 0, by rw [HG.out]; rfl, by rw [HG.out]; exact World.ownsRow_nil _ _ _ _, hB1⟩
  | some i =>
    have HG : Hid (proveP l [d0, d1, d2, d3] = (i, way (dgs l) i, 0)) := by show proveP _ _ = _; rw [proveP, hf]
    have hi := (findP_some hf).1
    simp only [findI]
    have hrA := hr.below hB1
    clear hf hs0 hB0
    go_wp2_with fail
    refine (rdigests_any A n c l w1 hrA hn hs).mono ?_
    rintro e w2 ⟨v, rfl, hown, hb2⟩
    have hB2 := hB1.trans (hb2.mono hB1.size)
    obtain ⟨A2, c2, rfl, hds⟩ := ds_own hown (dgs_wl l) (by rw [dgs_len]; exact hl)
    clear hown
    go_wp2_with fail
    refine (rprove_any (dgs l) A2 n c2 i w2 hn (by omega) hds).mono ?_
    rintro e w3 ⟨v, rfl, hown, hb3⟩
    have hB3 := hB2.trans (hb3.mono hB2.size)
    go_wp2_with fail
    go_ret3
    exact ⟨v, by rw [HG.out]; rfl, by rw [HG.out]; exact hown.mono hB2.size, hB3⟩
end Go.Proofs.YtgpohndnkecbeaaDoor
