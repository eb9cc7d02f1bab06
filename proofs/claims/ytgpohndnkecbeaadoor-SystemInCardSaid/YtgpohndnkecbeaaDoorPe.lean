/- Plain laws of the journal: more behind, recovery. -/
import Derived.Test.YtgpohndnkecbeaaDoorPd
namespace Go.Proofs.Sc
open Go
theorem cut_many (l : List (List UInt8)) (cut : Nat) : ∃ many, many ≤ l.length ∧ total (l.take many) ≤ cut ∧ (many < l.length → cut < total (l.take (many + 1))) := by
  suffices h : ∀ k, k ≤ l.length → ∃ many, many ≤ k ∧ total (l.take many) ≤ cut ∧ (many < k → cut < total (l.take (many + 1))) from h _ (Nat.le_refl _)
  intro k
  induction k with
  | zero => exact fun _ => ⟨0, Nat.le_refl _, by simp [total], by omega⟩
  | succ k ih =>
    intro hk
    obtain ⟨m, h1, h2, h3⟩ := ih (by omega)
    rcases Nat.lt_or_ge m k with h | h
    · exact ⟨m, by omega, h2, fun _ => h3 h⟩
    · obtain rfl : m = k := by omega
      by_cases hc : cut < total (l.take (m + 1))
      · exact ⟨m, by omega, h2, fun _ => hc⟩
      · exact ⟨m + 1, Nat.le_refl _, by omega, by omega⟩
/-- More behind: records that are put behind others are read behind them, and what begins behind them. -/
theorem reads_more (a : List (List UInt8)) (s : List UInt8) (ha : ∀ r ∈ a, r.length < 4294967296) (h : a.length + (reads 1000 s).length ≤ 1000) : reads 1000 (putB a ++ s) = a ++ reads 1000 s := by
  have h1 := reads_put a s ha (1000 - a.length)
  rw [show a.length + (1000 - a.length) = 1000 from by omega] at h1
  rw [h1]
  have h2 := reads_take (1000 - a.length) a.length s
  rw [show 1000 - a.length + a.length = 1000 from by omega] at h2
  rw [h2, List.take_of_length_le (by omega)]
end Go.Proofs.Sc
