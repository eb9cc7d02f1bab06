/- Contracts: ref01.Bytes, ref41.Framed. -/
import Derived.Test.YtgpohndnkecbeaaDoorDd
import Derived.Test.YtgpohndnkecbeaaDoorPc
namespace Go.Proofs.YtgpohndnkecbeaaDoor
open Go Go.RowKit Go.Proofs.Sc
theorem le4_take (x j : Nat) (hj : j < 4) : (le4 x).take (j + 1) = (le4 x).take j ++ [UInt8.ofNat (x / 256 ^ j)] := by
  match j, hj with
  | 0, _ => simp [le4]
  | 1, _ => simp [le4]
  | 2, _ => simp [le4]
  | 3, _ => simp [le4]
def InRel (w : World) (B m : Nat) (pre : List UInt8) (x : Nat) (v xv jv : Value) (wr : World) : Prop :=
  ∃ j : Nat, j ≤ 4 ∧ jv = .int .i64 j ∧ xv = .int .u32 (x / 256 ^ j : Nat) ∧ wr.ownsRow B 5 1 v (m + j) (Lib.byteCells (pre ++ (le4 x).take j)) ∧ Below B w wr
set_option maxRecDepth 100000 in
set_option maxHeartbeats 1000000 in
theorem rbytes_any (A : Option Addr) (n c : Nat) (xs : List Nat) (w : World) (h : Rs w A n 1 (vw xs)) (hx : ∀ i, gw xs i < 4294967296) (hn : n ≤ 17592186044416) :
    Calls Tryd.prog 73 #[.slice A n c] w fun e w' => e = .returned (.string ⟨(wbytes xs).toArray⟩) ∧ Below w.heap.size w w' := by
  have hl := h.wlen
  go_enter Tryd.func73, Tryd.ntmps73
  go_wp2_with (first | (at_make; refine mk_own 51 5 _ 1 1 Tryd.underlying51 infoByte (by decide) rfl _ _ rfl w.heap.size .i64 .i64 _ (4 * n) rfl rfl (by omega) (by omega) (Nat.le_refl _) ?_; intro w1 hown1 hg1))
  have hB1 : Below w.heap.size w w1 := (Below.refl _ _).grown hg1 (Nat.le_refl _) (by simp)
  go_loopw [3, 4] (fun v i wr => ∃ k : Nat, k ≤ n ∧ i = .int .i64 k ∧ wr.ownsRow w.heap.size 5 1 v (4 * k) (Lib.byteCells (wbytes (xs.take k))) ∧ Below w.heap.size w wr)
    (fun _ i _ => n - (intOf i).toNat)
  case atStart => exact ⟨0, by omega, rfl, by simpa [wbytes, Lib.byteCells] using hown1, hB1⟩
  case round =>
    obtain ⟨k, hk, rfl, hown, hB⟩ := hrel
    clear hB1 hg1 hown1
    obtain ⟨w2, rfl⟩ : ∃ w2 : World, w2 = wr := ⟨_, rfl⟩
    by_cases hlt : k < n
    · obtain ⟨g, o, rfl, hc⟩ := (h.below hB).word hlt
      have hxk := hx k
      obtain ⟨x, hxe⟩ : ∃ x, x = gw xs k := ⟨_, rfl⟩
      have hwt := wbytes_take xs k (by omega)
      rw [← hxe] at hc hxk hwt
      clear hxe
      go_wp2_with fail
      go_loopw [3, 5, 6] (fun v xv jv wr => InRel w w.heap.size (4 * k) (wbytes (xs.take k)) x v xv jv wr) (fun _ _ j _ => 4 - (intOf j).toNat)
      case atStart => exact ⟨0, by omega, rfl, by simp, by simpa using hown, hB⟩
      case round =>
        obtain ⟨j, hj, rfl, rfl, hown2, hB2⟩ := hrel
        obtain ⟨z, hz⟩ : ∃ z, z = x / 256 ^ j := ⟨_, rfl⟩
        rw [← hz]
        have hzl : z < 4294967296 := by rw [hz]; exact Nat.lt_of_le_of_lt (Nat.div_le_self _ _) hxk
        have hzs : x / 256 ^ (j + 1) = z / 256 := by rw [hz, Nat.pow_succ, Nat.div_div_eq_div_mul]
        obtain ⟨w4, rfl⟩ : ∃ w2 : World, w2 = wr := ⟨_, rfl⟩
        by_cases hj4 : j < 4
        · have hlt4 := le4_take x j hj4
          rw [← hz] at hlt4
          clear hz
          go_wp2_with (first | (at_builtin; refine ap_new 51 5 _ 1 1 Tryd.underlying51 infoByte rfl (by decide) (by decide) rfl _ _ rfl w.heap.size _ (4 * k + j) _ rfl (hown2.alloc _) w4.heap.size 1 1 _ rfl (Bx.new w4 5 _) rfl ?c1 (by omega) (by have := hB2.size; simp; omega) ?_; rotate_left; intro v3 w3 hown3 hg3 hat3))
          case c1 => simp [Value.oneCell']
          refine ⟨⟨j + 1, by omega, by go_num, ?_, ?_, ?_⟩, by simp [intOf]; omega⟩
          · rw [hzs, Int.natCast_ediv]; rfl
          · rw [hlt4, ← List.append_assoc]
            have e : (#[Value.int .u8 ((z : Int) % 256)] : Array Value).toList = Lib.byteCells [UInt8.ofNat z] := by simp [Lib.byteCells]
            rw [e] at hown3
            simpa [Lib.byteCells, Nat.add_assoc] using hown3
          · exact (hB2.alloc hB2.size _).grown hg3 (by have := hB2.size; simp; omega) (own_base hown2)
        · obtain rfl : j = 4 := by omega
          go_wp2_with fail
          refine ⟨⟨k + 1, by omega, by go_num, ?_, hB2⟩, by simp [intOf]; omega⟩
          rw [hwt, show 4 * (k + 1) = 4 * k + 4 from by omega]
          exact hown2
    · obtain rfl : k = n := by omega
      rw [List.take_of_length_le (by omega)] at hown
      have hcv := conv_own (P := Tryd.prog) Tryd.underlying51 Tryd.underlying5 Tryd.underlying9 hown
      go_wp2_with fail
      go_ret
      exact ⟨rfl, hB⟩
set_option maxRecDepth 100000 in
set_option maxHeartbeats 400000 in
theorem framed_any (s : ByteArray) (w : World) (hn : s.size ≤ 1000000) :
    Calls Tryd.prog 34 #[.string s] w fun e w' => ∃ r : ByteArray, e = .returned (.string r) ∧ r.data.toList = framed s.data.toList ∧ Below w.heap.size w w' := by
  have hr : Rs (w.alloc (.cells #[.int .u32 s.size] 37)) (some ⟨w.heap.size, 0, none⟩) 1 1 (vw [s.size]) := by
    have := Rs.of_bx (n := 1) (size := 1) (Bx.new w 37 #[.int .u32 s.size]) rfl
    exact this
  have hgw : ∀ i, gw [s.size] i < 4294967296 := gw_lt (by simp; omega)
  go_enter Tryd.func34, Tryd.ntmps34
  go_wp2_with fail
  refine (rbytes_any _ 1 1 [s.size] _ hr hgw (by omega)).mono ?_
  rintro e w1 ⟨rfl, hb1⟩
  have hB1 : Below w.heap.size w w1 := ((Below.refl _ _).alloc (Nat.le_refl _) _).trans (hb1.mono (by simp))
  obtain ⟨H, hH⟩ : ∃ H : ByteArray, H = ⟨(wbytes [s.size]).toArray⟩ := ⟨_, rfl⟩
  have hHl : H.data.toList = le4 (s.data.toList.length % 4294967296) := by
    rw [hH, size_list, Nat.mod_eq_of_lt (by omega)]; simp [wbytes]
  have hHs : H.size ≤ 4 := by rw [← size_list, hHl]; exact Nat.le_refl _
  rw [← hH]
  clear hH hr hgw
  go_wp2_with fail
  go_ret
  exact ⟨_, rfl, by rw [append_list, hHl]; rfl, hB1⟩
end Go.Proofs.YtgpohndnkecbeaaDoor
