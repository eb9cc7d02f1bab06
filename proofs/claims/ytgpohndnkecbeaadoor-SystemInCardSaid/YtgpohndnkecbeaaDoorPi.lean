/- Plain: a store's bytes, opened; a beginning of them. -/
import Derived.Test.YtgpohndnkecbeaaDoorTd
import Derived.Test.YtgpohndnkecbeaaDoorPe
namespace Go.Proofs.YtgpohndnkecbeaaDoor
open Go Go.RowKit Go.Proofs.Sc
theorem small_len {l : List ByteArray} (hf : fewP l 20 60) : ∀ r ∈ lsts l, r.length < 4294967296 := by
  intro r hr
  obtain ⟨s, hs, rfl⟩ := List.mem_map.1 hr
  have := hf.2 s hs
  rw [size_list]
  omega
/-- The whole bytes give the store again. -/
theorem open_saved {l rs : List ByteArray} (hf : fewP l 20 60) (hri : rightP l) (h : lsts rs = reads 1000 (putB (lsts l))) : rs = l ∧ openP rs = l ∧ (putB (lsts l)).length = total (lsts rs) := by
  have hl := hf.1
  have e : lsts rs = lsts l := by rw [h]; exact reads_all (lsts l) 1000 (by rw [lsts_len]; omega) (small_len hf)
  obtain rfl : rs = l := lsts_inj e
  exact ⟨rfl, open_right hri, putB_len _⟩
/-- A beginning of the bytes gives the first items. -/
theorem open_begin {l rs : List ByteArray} {k : Nat} (hf : fewP l 20 60) (hri : rightP l) (h : lsts rs = reads 1000 ((putB (lsts l)).take k)) (_hk : k ≤ (putB (lsts l)).length) :
    ∃ many, many ≤ l.length ∧ rs = l.take many ∧ openP rs = l.take many ∧ total (lsts rs) ≤ k := by
  have hl := hf.1
  obtain ⟨many, hm, h1, h2⟩ := cut_many (lsts l) k
  rw [lsts_len] at hm
  have e : lsts rs = (lsts l).take many := by
    rw [h]
    exact reads_cut (lsts l) k many 1000 (by rw [lsts_len]; exact hm) (by omega) (small_len hf) h1 h2
  have e2 : (lsts l).take many = lsts (l.take many) := by simp [lsts]
  obtain rfl : rs = l.take many := lsts_inj (e.trans e2)
  refine ⟨many, hm, rfl, open_right (right_take hri many), ?_⟩
  rw [← e2]; exact h1
end Go.Proofs.YtgpohndnkecbeaaDoor
