/- Contract: word.Bytes. -/
import Derived.Test.YtgpohndnkecbeaaDoorTy
import Derived.Test.YtgpohndnkecbeaaDoorPb
import Derived.Laws.BitsAllLaws
namespace Go.Proofs.YtgpohndnkecbeaaDoor
open Go Go.RowKit Go.Proofs.Sc
theorem u8_of (x : Nat) : ((UInt8.ofNat x).toNat : Int) = (x : Int) % 256 := by rw [UInt8.toNat_ofNat']; omega
theorem le4_cells (x : Nat) (h : x < 4294967296) : (#[Value.int .u8 ((x : Int) % 256), .int .u8 ((x : Int) / 256 % 256), .int .u8 ((x : Int) / 65536 % 256), .int .u8 ((x : Int) / 16777216)] : Array Value).toList = Lib.byteCells (le4 x) := by
  have e3 : (x : Int) / 16777216 = (x : Int) / 16777216 % 256 := by omega
  rw [e3]
  simp only [Lib.byteCells, le4, List.map_cons, List.map_nil, u8_of, Int.natCast_ediv, Int.cast_ofNat_Int]
set_option maxRecDepth 100000 in
set_option maxHeartbeats 400000 in
theorem bytes_any (A : Option Addr) (n c : Nat) (xs : List Nat) (w : World) (h : Rs w A n 1 (vw xs)) (hx : ∀ i, gw xs i < 4294967296) (hn : n ≤ 17592186044416) :
    Calls Tryd.prog 58 #[.slice A n c] w fun e w' => e = .returned (.string ⟨(wbytes xs).toArray⟩) ∧ Below w.heap.size w w' := by
  have hl := h.wlen
  go_enter Tryd.func58, Tryd.ntmps58
  go_wp2_with (first | (at_make; refine mk_own 51 5 _ 1 1 Tryd.underlying51 infoByte (by decide) rfl _ _ rfl w.heap.size .i64 .i64 _ (4 * n) rfl rfl (by omega) (by omega) (Nat.le_refl _) ?_; intro w1 hown1 hg1))
  have hB1 : Below w.heap.size w w1 := (Below.refl _ _).grown hg1 (Nat.le_refl _) (by simp)
  go_loopw [3, 12] (fun v i wr => ∃ k : Nat, k ≤ n ∧ i = .int .i64 k ∧ wr.ownsRow w.heap.size 5 1 v (4 * k) (Lib.byteCells (wbytes (xs.take k))) ∧ Below w.heap.size w wr)
    (fun _ i _ => n - (intOf i).toNat)
  case atStart => exact ⟨0, by omega, rfl, by simpa [wbytes, Lib.byteCells] using hown1, hB1⟩
  case round =>
    obtain ⟨k, hk, rfl, hown, hB⟩ := hrel
    clear hB1 hg1 hown1
    obtain ⟨w2, rfl⟩ : ∃ w2 : World, w2 = wr := ⟨_, rfl⟩
    by_cases hlt : k < n
    · obtain ⟨g, o, rfl, hc⟩ := (h.below hB).word hlt
      have hxk := hx k
      go_wp2_with (first | (at_builtin; refine ap_new 51 5 _ 1 1 Tryd.underlying51 infoByte rfl (by decide) (by decide) rfl _ _ rfl w.heap.size u3 (4 * k) _ rfl (hown.alloc _) w2.heap.size 4 4 _ rfl (Bx.new w2 5 _) rfl ?c1 (by omega) (by have := hB.size; simp; omega) ?_; rotate_left; intro v3 w3 hown3 hg3 hat3))
      case c1 => simp [Value.oneCell']
      rw [le4_cells _ hxk] at hown3
      refine ⟨⟨k + 1, by omega, by go_num, ?_, ?_⟩, by simp [intOf]; omega⟩
      · rw [wbytes_take xs k (by omega), show 4 * (k + 1) = 4 * k + 4 from by omega]
        simpa [Lib.byteCells] using hown3
      · exact (hB.alloc hB.size _).grown hg3 (by have := hB.size; simp; omega) (own_base hown)
    · obtain rfl : k = n := by omega
      rw [List.take_of_length_le (by omega)] at hown
      have hcv := conv_own (P := Tryd.prog) Tryd.underlying51 Tryd.underlying5 Tryd.underlying9 hown
      go_wp2_with fail
      go_ret
      exact ⟨rfl, hB⟩
end Go.Proofs.YtgpohndnkecbeaaDoor
