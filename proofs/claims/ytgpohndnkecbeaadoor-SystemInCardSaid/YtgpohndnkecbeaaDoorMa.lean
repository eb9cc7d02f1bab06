/- Words on memory: a block that is known whole; the table of turns. -/
import Derived.Test.YtgpohndnkecbeaaDoorProg
import Derived.WalkKit
import Derived.WalkSpells
import Derived.WalkLawsBesides
import Derived.Deep.Draws
import Derived.Test.YtgpohndnkecbeaaDoorPa
namespace Go.Proofs.Sc
open Go Go.RowKit

/-- Block g is just these cells, none frozen. -/
def Bx (w : World) (g : Nat) (t : TypeId) (cs : Array Value) : Prop := w.heap[g]? = some (.cells cs t (0, 0))
section
variable {w w' : World} {g : Nat} {t : TypeId} {cs : Array Value}
theorem Bx.lt (h : Bx w g t cs) : g < w.heap.size := by
  rcases Nat.lt_or_ge g w.heap.size with hlt | hge
  · exact hlt
  · unfold Bx at h; rw [Array.getElem?_eq_none hge] at h; cases h
theorem Bx.cell (h : Bx w g t cs) (i : Nat) : w.cell? ⟨g, i, none⟩ = cs[i]? := cell_of_row w g i cs t (0, 0) h
theorem Bx.frozen (h : Bx w g t cs) (i : Nat) : w.frozen? ⟨g, i, none⟩ = false := by
  unfold Bx at h
  simp [World.frozen?, h]
theorem Bx.new (w : World) (t : TypeId) (cs : Array Value) : Bx (w.alloc (.cells cs t)) w.heap.size t cs := heap_alloc_new w _
theorem Bx.drew (h : Bx w g t cs) : Bx w.drew g t cs := h
theorem Bx.drewN (h : Bx w g t cs) (n : Nat) : Bx (w.drewN n) g t cs := h
theorem Bx.alloc (h : Bx w g t cs) (o : Obj) : Bx (w.alloc o) g t cs := (Below.heap_alloc w o g h.lt).trans h
theorem Bx.set (h : Bx w g t cs) (i : Nat) (u : Value) : Bx (w.setCell ⟨g, i, none⟩ u) g t (cs.setIfInBounds i u) := by
  unfold Bx at h ⊢
  simp [World.setCell, Array.getElem?_modify, h]
theorem Bx.far (h : Bx w g t cs) {p : Addr} (hp : g ≠ p.block) (u : Value) : Bx (w.setCell p u) g t cs := (Below.heap_setCell w p u g hp).trans h
theorem Bx.below {B : Nat} (h : Bx w g t cs) (hb : Below B w w') (hg : g < B) : Bx w' g t cs := (hb.block g hg).trans h
theorem Bx.belowS (h : Bx w g t cs) (hb : Below w.heap.size w w') : Bx w' g t cs := h.below hb h.lt
theorem Bx.grown {row : Option Nat} (h : Bx w g t cs) (hb : w.grownBy w' row) (hg : some g ≠ row) : Bx w' g t cs := (hb.block g h.lt hg).trans h
end

/-- The program's table of turns lies where it was laid. -/
def Turns (w : World) : Prop := ∃ tt fr, w.heap[0]? = some (.cells #[.int .i64 7, .int .i64 9, .int .i64 13, .int .i64 18] tt fr)
theorem Turns.lt {w : World} (h : Turns w) : 0 < w.heap.size := by
  obtain ⟨tt, fr, h⟩ := h
  rcases Nat.lt_or_ge 0 w.heap.size with hlt | hge
  · exact hlt
  · rw [Array.getElem?_eq_none hge] at h; cases h
theorem Turns.below {w w' : World} {B : Nat} (h : Turns w) (hb : Below B w w') (hB : 0 < B) : Turns w' := by
  obtain ⟨tt, fr, h⟩ := h
  exact ⟨tt, fr, (hb.block 0 hB).trans h⟩
theorem Turns.belowS {w w' : World} (h : Turns w) (hb : Below w.heap.size w w') : Turns w' := h.below hb h.lt
theorem Turns.cells {w : World} (h : Turns w) : w.cell? ⟨0, 0, none⟩ = some (.int .i64 7) ∧ w.cell? ⟨0, 1, none⟩ = some (.int .i64 9) ∧ w.cell? ⟨0, 2, none⟩ = some (.int .i64 13) ∧ w.cell? ⟨0, 3, none⟩ = some (.int .i64 18) := by
  obtain ⟨tt, fr, h⟩ := h
  exact ⟨cell_of_row w 0 0 _ tt fr h, cell_of_row w 0 1 _ tt fr h, cell_of_row w 0 2 _ tt fr h, cell_of_row w 0 3 _ tt fr h⟩
/-- Words as cells. -/
def wds (l : List Nat) : Array Value := (l.map fun x : Nat => Value.int .u32 (x : Int)).toArray
theorem wds_get (l : List Nat) (i : Nat) (h : i < l.length) : (wds l)[i]? = some (.int .u32 (gw l i : Nat)) := by
  simp [wds, gw, List.getElem?_eq_getElem h, List.getD_eq_getElem?_getD]
theorem wds_set (l : List Nat) (i v : Nat) : (wds l).setIfInBounds i (.int .u32 (v : Nat)) = wds (l.set i v) := by
  simp [wds, List.map_set]
theorem wds_size (l : List Nat) : (wds l).size = l.length := by simp [wds]
theorem Bx.word {w : World} {g : Nat} {t : TypeId} {l : List Nat} (h : Bx w g t (wds l)) (i : Nat) (hi : i < l.length) : w.cell? ⟨g, i, none⟩ = some (.int .u32 (gw l i : Nat)) := by
  rw [h.cell, wds_get l i hi]
theorem Bx.setw {w : World} {g : Nat} {t : TypeId} {l : List Nat} (h : Bx w g t (wds l)) (i v : Nat) : Bx (w.setCell ⟨g, i, none⟩ (.int .u32 (v : Nat))) g t (wds (l.set i v)) := by
  rw [← wds_set]; exact h.set i _
theorem Bx.w8c {w : World} {g : Nat} {t : TypeId} {z0 z1 z2 z3 z4 z5 z6 z7 : Nat} (h : Bx w g t (wds [z0, z1, z2, z3, z4, z5, z6, z7])) :
    w.cell? ⟨g, 0, none⟩ = some (.int .u32 (z0 : Nat)) ∧ w.cell? ⟨g, 1, none⟩ = some (.int .u32 (z1 : Nat)) ∧ w.cell? ⟨g, 2, none⟩ = some (.int .u32 (z2 : Nat)) ∧ w.cell? ⟨g, 3, none⟩ = some (.int .u32 (z3 : Nat)) ∧ w.cell? ⟨g, 4, none⟩ = some (.int .u32 (z4 : Nat)) ∧ w.cell? ⟨g, 5, none⟩ = some (.int .u32 (z5 : Nat)) ∧ w.cell? ⟨g, 6, none⟩ = some (.int .u32 (z6 : Nat)) ∧ w.cell? ⟨g, 7, none⟩ = some (.int .u32 (z7 : Nat)) :=
  ⟨h.cell 0, h.cell 1, h.cell 2, h.cell 3, h.cell 4, h.cell 5, h.cell 6, h.cell 7⟩
theorem Bx.w8f {w : World} {g : Nat} {t : TypeId} {cs : Array Value} (h : Bx w g t cs) :
    w.frozen? ⟨g, 0, none⟩ = false ∧ w.frozen? ⟨g, 1, none⟩ = false ∧ w.frozen? ⟨g, 2, none⟩ = false ∧ w.frozen? ⟨g, 3, none⟩ = false ∧ w.frozen? ⟨g, 4, none⟩ = false ∧ w.frozen? ⟨g, 5, none⟩ = false ∧ w.frozen? ⟨g, 6, none⟩ = false ∧ w.frozen? ⟨g, 7, none⟩ = false :=
  ⟨h.frozen 0, h.frozen 1, h.frozen 2, h.frozen 3, h.frozen 4, h.frozen 5, h.frozen 6, h.frozen 7⟩
theorem Bx.w4c {w : World} {g : Nat} {t : TypeId} {z0 z1 z2 z3 : Nat} (h : Bx w g t (wds [z0, z1, z2, z3])) :
    w.cell? ⟨g, 0, none⟩ = some (.int .u32 (z0 : Nat)) ∧ w.cell? ⟨g, 1, none⟩ = some (.int .u32 (z1 : Nat)) ∧ w.cell? ⟨g, 2, none⟩ = some (.int .u32 (z2 : Nat)) ∧ w.cell? ⟨g, 3, none⟩ = some (.int .u32 (z3 : Nat)) :=
  ⟨h.cell 0, h.cell 1, h.cell 2, h.cell 3⟩
theorem Bx.w4f {w : World} {g : Nat} {t : TypeId} {cs : Array Value} (h : Bx w g t cs) :
    w.frozen? ⟨g, 0, none⟩ = false ∧ w.frozen? ⟨g, 1, none⟩ = false ∧ w.frozen? ⟨g, 2, none⟩ = false ∧ w.frozen? ⟨g, 3, none⟩ = false :=
  ⟨h.frozen 0, h.frozen 1, h.frozen 2, h.frozen 3⟩
theorem Bx.set8 {w : World} {g : Nat} {t : TypeId} {z0 z1 z2 z3 z4 z5 z6 z7 : Nat} (h : Bx w g t (wds [z0, z1, z2, z3, z4, z5, z6, z7])) (y0 y1 y2 y3 y4 y5 y6 y7 : Nat) :
    Bx ((((((((w.setCell ⟨g, 0, none⟩ (.int .u32 (y0 : Nat))).setCell ⟨g, 1, none⟩ (.int .u32 (y1 : Nat))).setCell ⟨g, 2, none⟩ (.int .u32 (y2 : Nat))).setCell ⟨g, 3, none⟩ (.int .u32 (y3 : Nat))).setCell ⟨g, 4, none⟩ (.int .u32 (y4 : Nat))).setCell ⟨g, 5, none⟩ (.int .u32 (y5 : Nat))).setCell ⟨g, 6, none⟩ (.int .u32 (y6 : Nat))).setCell ⟨g, 7, none⟩ (.int .u32 (y7 : Nat))) g t (wds [y0, y1, y2, y3, y4, y5, y6, y7]) := (((((((h.setw 0 y0).setw 1 y1).setw 2 y2).setw 3 y3).setw 4 y4).setw 5 y5).setw 6 y6).setw 7 y7
theorem Bx.far8 {w : World} {b g : Nat} {t : TypeId} {cs : Array Value} (h : Bx w b t cs) (hne : b ≠ g) (y0 y1 y2 y3 y4 y5 y6 y7 : Nat) :
    Bx ((((((((w.setCell ⟨g, 0, none⟩ (.int .u32 (y0 : Nat))).setCell ⟨g, 1, none⟩ (.int .u32 (y1 : Nat))).setCell ⟨g, 2, none⟩ (.int .u32 (y2 : Nat))).setCell ⟨g, 3, none⟩ (.int .u32 (y3 : Nat))).setCell ⟨g, 4, none⟩ (.int .u32 (y4 : Nat))).setCell ⟨g, 5, none⟩ (.int .u32 (y5 : Nat))).setCell ⟨g, 6, none⟩ (.int .u32 (y6 : Nat))).setCell ⟨g, 7, none⟩ (.int .u32 (y7 : Nat))) b t cs := (((((((h.far hne _).far hne _).far hne _).far hne _).far hne _).far hne _).far hne _).far hne _
theorem below_set8 {w0 w : World} {B g : Nat} (h : Below B w0 w) (hg : B ≤ g) (y0 y1 y2 y3 y4 y5 y6 y7 : Nat) :
    Below B w0 ((((((((w.setCell ⟨g, 0, none⟩ (.int .u32 (y0 : Nat))).setCell ⟨g, 1, none⟩ (.int .u32 (y1 : Nat))).setCell ⟨g, 2, none⟩ (.int .u32 (y2 : Nat))).setCell ⟨g, 3, none⟩ (.int .u32 (y3 : Nat))).setCell ⟨g, 4, none⟩ (.int .u32 (y4 : Nat))).setCell ⟨g, 5, none⟩ (.int .u32 (y5 : Nat))).setCell ⟨g, 6, none⟩ (.int .u32 (y6 : Nat))).setCell ⟨g, 7, none⟩ (.int .u32 (y7 : Nat))) := (((((((h.setCell hg _).setCell hg _).setCell hg _).setCell hg _).setCell hg _).setCell hg _).setCell hg _).setCell hg _
theorem Bx.set4 {w : World} {g : Nat} {t : TypeId} {z0 z1 z2 z3 : Nat} (h : Bx w g t (wds [z0, z1, z2, z3])) (y0 y1 y2 y3 : Nat) :
    Bx ((((w.setCell ⟨g, 0, none⟩ (.int .u32 (y0 : Nat))).setCell ⟨g, 1, none⟩ (.int .u32 (y1 : Nat))).setCell ⟨g, 2, none⟩ (.int .u32 (y2 : Nat))).setCell ⟨g, 3, none⟩ (.int .u32 (y3 : Nat))) g t (wds [y0, y1, y2, y3]) := (((h.setw 0 y0).setw 1 y1).setw 2 y2).setw 3 y3
theorem Bx.far4 {w : World} {b g : Nat} {t : TypeId} {cs : Array Value} (h : Bx w b t cs) (hne : b ≠ g) (y0 y1 y2 y3 : Nat) :
    Bx ((((w.setCell ⟨g, 0, none⟩ (.int .u32 (y0 : Nat))).setCell ⟨g, 1, none⟩ (.int .u32 (y1 : Nat))).setCell ⟨g, 2, none⟩ (.int .u32 (y2 : Nat))).setCell ⟨g, 3, none⟩ (.int .u32 (y3 : Nat))) b t cs := (((h.far hne _).far hne _).far hne _).far hne _
theorem below_set4 {w0 w : World} {B g : Nat} (h : Below B w0 w) (hg : B ≤ g) (y0 y1 y2 y3 : Nat) :
    Below B w0 ((((w.setCell ⟨g, 0, none⟩ (.int .u32 (y0 : Nat))).setCell ⟨g, 1, none⟩ (.int .u32 (y1 : Nat))).setCell ⟨g, 2, none⟩ (.int .u32 (y2 : Nat))).setCell ⟨g, 3, none⟩ (.int .u32 (y3 : Nat))) := (((h.setCell hg _).setCell hg _).setCell hg _).setCell hg _
end Go.Proofs.Sc
