/- '[]byte(s)': a block of the call's own. -/
import Derived.Test.YtgpohndnkecbeaaDoorMd
import Derived.Laws.IdiomStrings
namespace Go.Proofs.YtgpohndnkecbeaaDoor
open Go Go.RowKit Go.Proofs.Sc
/-- '[]byte(s)': a block of its own. -/
theorem conv_str (w : World) (s : ByteArray) : ∃ cap w', (convert 9 51 (.string s)).run Tryd.prog w = .ok (.slice (some ⟨w.heap.size, 0, none⟩) s.size cap) w' ∧
    (∀ i (h : i < s.size), w'.cell? ⟨w.heap.size, i, none⟩ = some (.int .u8 (s[i].toNat : Int))) ∧ (∀ i, i < s.size → w'.frozen? ⟨w.heap.size, i, none⟩ = false) ∧ Below w.heap.size w w' := by
  refine ⟨_, _, run_bytes_of_string (P := Tryd.prog) w 9 51 5 s Tryd.underlying9 Tryd.underlying51 Tryd.underlying5, ?_, ?_, ((Below.refl _ w).drew).alloc (Nat.le_refl _) _⟩
  · intro i h
    have h1 : (w.drew.alloc (.cells (bytesRow s (grownCap w s.size 0 5)) 5 ((bytesRow s (grownCap w s.size 0 5)).size, (bytesRow s (grownCap w s.size 0 5)).size + 1))).heap[w.heap.size]? = some (.cells (bytesRow s (grownCap w s.size 0 5)) 5 ((bytesRow s (grownCap w s.size 0 5)).size, (bytesRow s (grownCap w s.size 0 5)).size + 1)) := heap_alloc_new w.drew _
    rw [cell_of_row _ _ i _ _ _ h1, bytesRow, Array.getElem?_append_left (by rw [Array.size_map]; exact h), Array.getElem?_map, Array.getElem?_eq_getElem (by exact h)]
    rfl
  · intro i h
    have h1 : (w.drew.alloc (.cells (bytesRow s (grownCap w s.size 0 5)) 5 ((bytesRow s (grownCap w s.size 0 5)).size, (bytesRow s (grownCap w s.size 0 5)).size + 1))).heap[w.heap.size]? = some (.cells (bytesRow s (grownCap w s.size 0 5)) 5 ((bytesRow s (grownCap w s.size 0 5)).size, (bytesRow s (grownCap w s.size 0 5)).size + 1)) := heap_alloc_new w.drew _
    have h2 : s.size ≤ (bytesRow s (grownCap w s.size 0 5)).size := by
      rw [bytesRow, Array.size_append, Array.size_map]
      exact Nat.le_add_right _ _
    unfold World.frozen?
    rw [h1]
    have h3 : decide ((bytesRow s (grownCap w s.size 0 5)).size ≤ i) = false := by simp; omega
    simp [h3]
/-- The same, as a slice that is read. -/
theorem conv_rs (w : World) (s : ByteArray) : ∃ cap w', (convert 9 51 (.string s)).run Tryd.prog w = .ok (.slice (some ⟨w.heap.size, 0, none⟩) s.size cap) w' ∧
    Rs w' (some ⟨w.heap.size, 0, none⟩) s.size 1 (Lib.byteCells s.data.toList) ∧ Below w.heap.size w w' := by
  obtain ⟨cap, w', h1, h2, -, h4⟩ := conv_str w s
  refine ⟨cap, w', h1, ⟨by simp [Lib.byteCells], fun _ => ⟨_, _, rfl, fun j u hu => ?_⟩⟩, h4⟩
  have hj : j < s.size := by
    rcases Nat.lt_or_ge j s.size with h | h
    · exact h
    · rw [List.getElem?_eq_none (by simp [Lib.byteCells]; omega)] at hu; cases hu
  rw [Nat.zero_add, h2 j hj]
  simp only [Lib.byteCells, List.getElem?_map, get_list s j hj, Option.map_some] at hu
  exact hu
end Go.Proofs.YtgpohndnkecbeaaDoor
