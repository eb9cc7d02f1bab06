/- Cuts of slices whose address is not known. -/
import Derived.Test.YtgpohndnkecbeaaDoorTy
import Derived.ChangeKeysEq
import Derived.DataShut
namespace Go.Proofs.YtgpohndnkecbeaaDoor
open Go Go.RowKit Go.Proofs.Sc
set_option maxRecDepth 100000
theorem addr_add0 (a : Addr) : a.add 0 = a := by
  obtain ⟨g, o, sp⟩ := a
  cases sp <;> simp [Addr.add]
theorem sliced_h (A : Option Addr) (k c s : Nat) : sliced A 0 k c s = .slice A k c := by
  unfold sliced
  rw [Nat.zero_mul]
  cases A with
  | none => simp
  | some a => simp [addr_add0]
theorem sz22 (w : World) : (sizeOf (Tryd.prog.elem 22)).run Tryd.prog w = .ok 1 w := by kernel_rfl
theorem sz42 (w : World) : (sizeOf (Tryd.prog.elem 42)).run Tryd.prog w = .ok 4 w := by kernel_rfl
theorem el22 : Tryd.prog.underlying 22 = some (.slice (Tryd.prog.elem 22)) := by kernel_rfl
theorem el42 : Tryd.prog.underlying 42 = some (.slice (Tryd.prog.elem 42)) := by kernel_rfl
/-- l[:k], of strings, of digests. -/
theorem sl22_h (A : Option Addr) (n c k : Nat) (hk : k ≤ c) (w : World) : (Instr.slice 22 (.slice A n c) none (some (.int .i64 (k : Int))) none).run Tryd.prog w = .ok (.slice A k c) w := by
  rw [run_slice_h w 22 A n c el22 .i64 (k : Int) (by omega) (by omega), sz22]
  simp only [Result.andThen, Int.toNat_natCast, sliced_h]
theorem sl42_h (A : Option Addr) (n c k : Nat) (hk : k ≤ c) (w : World) : (Instr.slice 42 (.slice A n c) none (some (.int .i64 (k : Int))) none).run Tryd.prog w = .ok (.slice A k c) w := by
  rw [run_slice_h w 42 A n c el42 .i64 (k : Int) (by omega) (by omega), sz42]
  simp only [Result.andThen, Int.toNat_natCast, sliced_h]
/-- '==' on digests. -/
theorem eq_dig (d0 d1 d2 d3 e0 e1 e2 e3 : Nat) (w : World) :
    (Op.equalIn 10000 39 (.agg #[.int .u32 d0, .int .u32 d1, .int .u32 d2, .int .u32 d3]) (.agg #[.int .u32 e0, .int .u32 e1, .int .u32 e2, .int .u32 e3])).run Tryd.prog w = .ok (decide ([d0, d1, d2, d3] = [e0, e1, e2, e3])) w := by
  obtain ⟨i, hi, -⟩ := info_parts infoWord
  rw [run_equalIn_array w 9999 (n := 4) _ _ Tryd.underlying39 hi]
  have hc : Tryd.prog.cellsOf 37 = 1 := by kernel_rfl
  simp [Op.eqItems, List.range_succ, hc, go_sem]
  by_cases h0 : d0 = e0 <;> by_cases h1 : d1 = e1 <;> by_cases h2 : d2 = e2 <;> by_cases h3 : d3 = e3 <;> simp [h0, h1, h2, h3, Int.natCast_inj]
theorem wf_u8 {x : Int} (h : (Lit.int .u8 x).wf = true) : 0 ≤ x ∧ x < 256 := by
  have := (Lit.wf_int_iff .u8 x).1 h
  have h1 : IntKind.u8.min = 0 := rfl
  have h2 : IntKind.u8.max = 255 := rfl
  omega
theorem wf_u16 {x : Int} (h : (Lit.int .u16 x).wf = true) : 0 ≤ x ∧ x < 65536 := by
  have := (Lit.wf_int_iff .u16 x).1 h
  have h1 : IntKind.u16.min = 0 := rfl
  have h2 : IntKind.u16.max = 65535 := rfl
  omega
end Go.Proofs.YtgpohndnkecbeaaDoor
