/- Contracts: ref01.Turn, ref03.turns. -/
import Derived.Test.YtgpohndnkecbeaaDoorDc
namespace Go.Proofs.Sc
theorem rotl_sum (x k : Nat) (hk : k ≤ 32) (hx : x < 4294967296) : rotl x k = (x % 2 ^ (32 - k)) * 2 ^ k + x / 2 ^ (32 - k) := by
  have e : 4294967296 = 2 ^ (32 - k) * 2 ^ k := by rw [← Nat.pow_add, Nat.sub_add_cancel hk]
  have hlt : x / 2 ^ (32 - k) < 2 ^ k := by
    refine Nat.div_lt_of_lt_mul ?_
    rw [← e]; exact hx
  unfold rotl
  rw [e, Nat.mul_mod_mul_right, Nat.mul_comm _ (2 ^ k)]
  exact (Nat.two_pow_add_eq_or_of_lt hlt _).symm
theorem turn_step (P Q x : Nat) (hPQ : P * Q = 2147483648) (hx : x < 4294967296) :
    2 * ((x % (2 * Q)) * P + x / (2 * Q)) % 4294967296 + ((x % (2 * Q)) * P + x / (2 * Q)) / 2147483648 = (x % Q) * (2 * P) + x / Q := by
  have hQ : 0 < Q := by
    rcases Nat.eq_zero_or_pos Q with rfl | h
    · simp at hPQ
    · exact h
  obtain ⟨h, hh⟩ : ∃ h, h = x / (2 * Q) := ⟨_, rfl⟩
  obtain ⟨l, hl⟩ : ∃ l, l = x % (2 * Q) := ⟨_, rfl⟩
  have hxe : 2 * Q * h + l = x := by rw [hh, hl]; exact Nat.div_add_mod x (2 * Q)
  have hl2 : l < 2 * Q := by rw [hl]; exact Nat.mod_lt _ (by omega)
  have hh2 : h < P := by
    rw [hh]
    refine Nat.div_lt_of_lt_mul ?_
    have : 2 * Q * P = 2 * (P * Q) := by rw [Nat.mul_assoc, Nat.mul_comm Q P]
    omega
  obtain ⟨b, hb⟩ : ∃ b, b = l / Q := ⟨_, rfl⟩
  obtain ⟨r, hr⟩ : ∃ r, r = l % Q := ⟨_, rfl⟩
  have hle : Q * b + r = l := by rw [hb, hr]; exact Nat.div_add_mod l Q
  have hr2 : r < Q := by rw [hr]; exact Nat.mod_lt _ hQ
  have hb2 : b < 2 := by rw [hb]; refine Nat.div_lt_of_lt_mul ?_; omega
  have e1 : x % Q = r := by
    rw [← hxe, ← hle, show 2 * Q * h + (Q * b + r) = r + Q * (2 * h + b) by rw [Nat.mul_add, ← Nat.mul_assoc, Nat.mul_comm Q 2]; omega, Nat.add_mul_mod_self_left, Nat.mod_eq_of_lt hr2]
  have e2 : x / Q = 2 * h + b := by
    rw [← hxe, ← hle, show 2 * Q * h + (Q * b + r) = r + Q * (2 * h + b) by rw [Nat.mul_add, ← Nat.mul_assoc, Nat.mul_comm Q 2]; omega, Nat.add_mul_div_left _ _ hQ, Nat.div_eq_of_lt hr2]
    omega
  have e3 : l * P = b * 2147483648 + r * P := by
    rw [← hle, Nat.add_mul, ← hPQ, Nat.mul_comm Q b, Nat.mul_assoc, Nat.mul_comm Q P]
  have e4 : r * P + P ≤ 2147483648 := by
    have : (r + 1) * P ≤ Q * P := Nat.mul_le_mul_right _ hr2
    rw [Nat.add_mul, Nat.one_mul, Nat.mul_comm Q P, hPQ] at this
    exact this
  have e5 : r * (2 * P) = 2 * (r * P) := by rw [Nat.mul_left_comm]
  rw [← hh, ← hl, e1, e2, e3, e5]
  obtain ⟨u, hu⟩ : ∃ u, u = r * P := ⟨_, rfl⟩
  rw [← hu] at e4 ⊢
  omega
theorem rotl_step (x k : Nat) (hk : k < 32) (hx : x < 4294967296) : 2 * rotl x k % 4294967296 + rotl x k / 2147483648 = rotl x (k + 1) := by
  rw [rotl_sum x k (by omega) hx, rotl_sum x (k + 1) (by omega) hx]
  have e1 : 32 - k = 31 - k + 1 := by omega
  have e2 : 32 - (k + 1) = 31 - k := by omega
  rw [e1, e2, Nat.pow_succ, Nat.pow_succ, Nat.mul_comm (2 ^ (31 - k)) 2, Nat.mul_comm (2 ^ k) 2]
  exact turn_step (2 ^ k) (2 ^ (31 - k)) x (by rw [← Nat.pow_add, show k + (31 - k) = 31 by omega]) hx
theorem rotl_zero (x : Nat) (hx : x < 4294967296) : rotl x 0 = x := by
  rw [rotl_sum x 0 (by omega) hx]
  omega
end Go.Proofs.Sc
namespace Go.Proofs.YtgpohndnkecbeaaDoor
open Go Go.RowKit Go.Proofs.Sc
set_option maxRecDepth 100000 in
set_option maxHeartbeats 1000000 in
theorem rturn_any (x n : Nat) (w : World) (hx : x < 4294967296) (hn : n < 32) :
    Calls Tryd.prog 112 #[.int .u32 x, .int .i64 n] w fun e w' => e = .returned (.int .u32 (rotl x n : Nat)) ∧ w = w' := by
  have e1 : (n : Int) % 32 = n := by omega
  have e2 : ((n : Int).tmod 32) = n := by rw [Int.tmod_eq_emod_of_nonneg (by omega)]; exact e1
  have e3 : ¬ (n : Int) < 0 := by omega
  go_enter Tryd.func112, Tryd.ntmps112
  go_wp2_with fail
  go_loopw [6, 7] (fun y i wr => ∃ k : Nat, k ≤ n ∧ i = .int .i64 k ∧ y = .int .u64 (rotl x k : Nat) ∧ wr = w) (fun _ i _ => n - (intOf i).toNat)
  case atStart => exact ⟨0, by omega, rfl, by rw [rotl_zero x hx], rfl⟩
  case round =>
    obtain ⟨k, hk, rfl, rfl, rfl⟩ := hrel
    have hy := rotl_lt x k hx
    have hst := rotl_step x k (by omega) hx
    obtain ⟨y, hye⟩ : ∃ y, y = rotl x k := ⟨_, rfl⟩
    rw [← hye] at hy hst ⊢
    by_cases hlt : k < n
    · clear hye
      go_wp2_with fail
      refine ⟨⟨k + 1, by omega, by go_num, ?_, trivial⟩, by simp [intOf]; omega⟩
      rw [← hst]
      congr 1
    · obtain rfl : k = n := by omega
      go_wp2_with fail
      go_ret
      exact ⟨by rw [hye]; rfl, rfl⟩
set_option maxRecDepth 100000 in
theorem rturns_any (w : World) : Calls Tryd.prog 111 #[] w fun e w' => e = .returned (.agg #[.int .i64 7, .int .i64 9, .int .i64 13, .int .i64 18]) ∧ Below w.heap.size w w' := by
  go_enter Tryd.func111, Tryd.ntmps111
  go_wp2_with fail
  have hfin := Bx.new w 136 #[.int .i64 7, .int .i64 9, .int .i64 13, .int .i64 18]
  refine bodyPost_ret (v := .agg #[.int .i64 7, .int .i64 9, .int .i64 13, .int .i64 18]) (results_cell_row rfl _ _ w.heap.size 136 _ (0, 0) _ rfl hfin Tryd.underlying136 rfl (by kernel_rfl)) rfl ⟨rfl, ?_⟩
  exact (Below.refl _ _).alloc (Nat.le_refl _) _
end Go.Proofs.YtgpohndnkecbeaaDoor
