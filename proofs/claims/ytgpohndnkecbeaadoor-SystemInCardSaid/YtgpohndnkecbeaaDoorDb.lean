/- Contracts: math/bits.RotateLeft32, word.Turn. -/
import Derived.Test.YtgpohndnkecbeaaDoorMa
import Derived.Test.YtgpohndnkecbeaaDoorPa
import Derived.Laws.BitsAllLaws
namespace Go.Proofs.YtgpohndnkecbeaaDoor
open Go Go.RowKit Go.Proofs.Sc
set_option maxRecDepth 100000 in
theorem rot_any (x n : Nat) (w : World) (hx : x < 4294967296) (hn : n < 32) :
    Calls Tryd.prog 114 #[.int .u32 x, .int .i64 n] w fun e w' => e = .returned (.int .u32 (rotl x n : Nat)) ∧ w = w' := by
  have e1 : bits .and .u64 (n : Int) 31 = n := by
    rw [show (31 : Int) = ((31 : Nat) : Int) from rfl, u64_and_nat _ _ (by omega) (by omega), nat_mask5, Nat.mod_eq_of_lt hn]
  have e2 : bits .or .u32 ((x : Int) * 2 ^ n % 4294967296) ((x : Int) / 2 ^ (32 - n)) = (rotl x n : Nat) := by
    have h1 : ((x : Int) * 2 ^ n % 4294967296) = ((x * 2 ^ n % 4294967296 : Nat) : Int) := by simp only [Int.natCast_emod, Int.natCast_mul, Int.natCast_pow, Int.cast_ofNat_Int]
    have h2 : ((x : Int) / 2 ^ (32 - n)) = ((x / 2 ^ (32 - n) : Nat) : Int) := by simp only [Int.natCast_ediv, Int.natCast_pow, Int.cast_ofNat_Int]
    rw [h1, h2, u32_or_nat _ _ (Nat.mod_lt _ (by decide)) (Nat.lt_of_le_of_lt (Nat.div_le_self _ _) hx)]; rfl
  go_enter Tryd.func114, Tryd.ntmps114
  go_wp2
  go_ret
  exact ⟨rfl, rfl⟩
set_option maxRecDepth 100000 in
theorem turn_any (x n : Nat) (w : World) (hx : x < 4294967296) (hn : n < 32) :
    Calls Tryd.prog 110 #[.int .u32 x, .int .i64 n] w fun e w' => e = .returned (.int .u32 (rotl x n : Nat)) ∧ w = w' := by
  have e1 : (n : Int) % 32 = n := by omega
  go_enter Tryd.func110, Tryd.ntmps110
  go_wp2_with (go_at_call 114; refine (rot_any _ _ _ hx hn).mono ?_; rintro e w' ⟨rfl, rfl⟩)
  go_ret
  exact ⟨rfl, rfl⟩
/-- The same, as a caller writes it. -/
theorem turn_xor (a b : Nat) (n : Int) (w : World) (ha : a < 4294967296) (hb : b < 4294967296) (h0 : 0 ≤ n) (hn : n < 32) :
    Calls Tryd.prog 110 #[.int .u32 (bits .xor .u32 (a : Int) (b : Int)), .int .i64 n] w fun e w' => e = .returned (.int .u32 (rotl (a ^^^ b) n.toNat : Nat)) ∧ w = w' := by
  obtain ⟨n, rfl⟩ := Int.eq_ofNat_of_zero_le h0
  rw [u32_xor_nat _ _ ha hb]
  exact turn_any _ _ _ (xor_lt ha hb) (by omega)
end Go.Proofs.YtgpohndnkecbeaaDoor
