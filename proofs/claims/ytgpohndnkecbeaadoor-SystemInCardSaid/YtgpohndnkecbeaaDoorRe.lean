/- Contract: ref01.Words. -/
import Derived.Test.YtgpohndnkecbeaaDoorDe
namespace Go.Proofs.Sc
open Go
/-- The bytes at a place, the highest k of four read. -/
def up4 (b0 b1 b2 b3 : Nat) : Nat → Nat
  | 0 => 0
  | 1 => b3
  | 2 => b3 * 256 + b2
  | 3 => (b3 * 256 + b2) * 256 + b1
  | _ => ((b3 * 256 + b2) * 256 + b1) * 256 + b0
end Go.Proofs.Sc
namespace Go.Proofs.YtgpohndnkecbeaaDoor
open Go Go.RowKit Go.Proofs.Sc
theorem bwords_take (s : ByteArray) (k : Nat) (hk : 4 * k + 4 ≤ s.size) :
    bwords (s.data.toList.take (4 * k + 4)) = bwords (s.data.toList.take (4 * k)) ++ [rd4 (s.data.toList[4 * k]'(by rw [size_list]; omega)) (s.data.toList[4 * k + 1]'(by rw [size_list]; omega)) (s.data.toList[4 * k + 2]'(by rw [size_list]; omega)) (s.data.toList[4 * k + 3]'(by rw [size_list]; omega))] := by
  have hl := size_list s
  rw [List.take_add, bwords_app _ _ (by rw [List.length_take]; omega)]
  congr 1
  rw [List.drop_eq_getElem_cons (by omega), List.drop_eq_getElem_cons (by omega), List.drop_eq_getElem_cons (by omega), List.drop_eq_getElem_cons (by omega)]
  rfl
def WinRel (w : World) (b0 b1 b2 b3 : Nat) (x j : Value) (wr : World) : Prop :=
  ∃ k : Nat, k ≤ 4 ∧ j = .int .i64 (3 - (k : Int)) ∧ x = .int .u32 (up4 b0 b1 b2 b3 k : Nat) ∧ wr = w
set_option maxRecDepth 100000 in
set_option maxHeartbeats 1000000 in
theorem rwords_any (s : ByteArray) (w : World) (h4 : s.size % 4 = 0) (hn : s.size ≤ 1000000000000) :
    Calls Tryd.prog 85 #[.string s] w fun e w' => ∃ v, e = .returned (.tuple #[v, .int .i64 0]) ∧ w'.ownsRow w.heap.size 37 1 v (bwords s.data.toList).length (vw (bwords s.data.toList)) ∧ Below w.heap.size w w' := by
  have e0 : ((s.size : Int) % 4 != 0) = false := by simp; omega
  obtain ⟨q, hq⟩ : ∃ q, q = s.size / 4 := ⟨_, rfl⟩
  have e3 : (s.size : Int) / 4 = (q : Int) := by omega
  have hq4 : 4 * q = s.size := by omega
  have HQ := Lib.hid hq4
  clear hq hq4
  go_enter Tryd.func85, Tryd.ntmps85
  go_wp2_with (first | (at_make; refine mk_own 85 37 _ 1 4 Tryd.underlying85 infoWord (by decide) rfl _ _ rfl w.heap.size .i64 .i64 _ q rfl rfl (by omega) (by have := HQ.out; omega) (Nat.le_refl _) ?_; intro w1 hown1 hg1))
  have hB1 : Below w.heap.size w w1 := (Below.refl _ _).grown hg1 (Nat.le_refl _) (by simp)
  go_loopw [4, 5] (fun v i wr => ∃ k : Nat, k ≤ q ∧ i = .int .i64 (4 * k : Nat) ∧ wr.ownsRow w.heap.size 37 1 v k (vw (bwords (s.data.toList.take (4 * k)))) ∧ Below w.heap.size w wr)
    (fun _ i _ => s.size - (intOf i).toNat)
  case atStart => exact ⟨0, by omega, rfl, by simpa [bwords, vw] using hown1, hB1⟩
  case round =>
    obtain ⟨k, hk, rfl, hown, hB⟩ := hrel
    clear hB1 hg1 hown1
    obtain ⟨w2, rfl⟩ : ∃ w2 : World, w2 = wr := ⟨_, rfl⟩
    have hqq := HQ.out
    obtain ⟨i, hi⟩ : ∃ i, i = 4 * k := ⟨_, rfl⟩
    rw [← hi]
    by_cases hlt : k < q
    · have hbt := bwords_take s k (by omega)
      have i0 : i < s.size := by omega
      have i1 : i + 1 < s.size := by omega
      have i2 : i + 2 < s.size := by omega
      have i3 : i + 3 < s.size := by omega
      have hd : decide ((i : Int) < (s.size : Int)) = true := by simp; omega
      have HI := Lib.hid hi
      have HBT0 := Lib.hid hbt
      clear hi hbt
      go_wp2_with fail
      obtain ⟨b0, hb0⟩ : ∃ b : UInt8, b = s[i] := ⟨_, rfl⟩
      obtain ⟨b1, hb1⟩ : ∃ b : UInt8, b = s[i + 1] := ⟨_, rfl⟩
      obtain ⟨b2, hb2⟩ : ∃ b : UInt8, b = s[i + 2] := ⟨_, rfl⟩
      obtain ⟨b3, hb3⟩ : ∃ b : UInt8, b = s[i + 3] := ⟨_, rfl⟩
      have HBT : Hid (bwords (s.data.toList.take (4 * k + 4)) = bwords (s.data.toList.take (4 * k)) ++ [rd4 b0 b1 b2 b3]) := by
        have hi := HI.out
        subst hi
        subst hb0 hb1 hb2 hb3
        exact HBT0.out
      have l0 := b0.toNat_lt
      have l1 := b1.toNat_lt
      have l2 := b2.toNat_lt
      have l3 := b3.toNat_lt
      have e0' := hb0.symm
      have e1' := hb1.symm
      have e2' := hb2.symm
      have e3' := hb3.symm
      clear HBT0 hb0 hb1 hb2 hb3
      go_loopw [6, 7] (fun x j wr => WinRel w2 b0.toNat b1.toNat b2.toNat b3.toNat x j wr) (fun _ j _ => (intOf j + 1).toNat)
      case atStart => exact ⟨0, by omega, rfl, rfl, rfl⟩
      case round =>
        obtain ⟨m, hm, rfl, rfl, rfl⟩ := hrel
        have hm5 : m = 0 ∨ m = 1 ∨ m = 2 ∨ m = 3 ∨ m = 4 := by omega
        rcases hm5 with rfl | rfl | rfl | rfl | rfl
        · go_wp2
          have hu : ∀ X : Int, X = ((up4 b0.toNat b1.toNat b2.toNat b3.toNat 1 : Nat) : Int) → Value.int .u32 X = .int .u32 (up4 b0.toNat b1.toNat b2.toNat b3.toNat 1 : Nat) := fun X h => by rw [h]
          have hj : (Value.int .i64 (2 : Int)) = .int .i64 (3 - ((1 : Nat) : Int)) := rfl
          go_roundw
          case rel =>
            exact Exists.intro (1 : Nat) ⟨by omega, hj, hu _ (by simp only [up4]; omega), rfl⟩
          case measure => simp [intOf]
        · go_wp2
          have hu : ∀ X : Int, X = ((up4 b0.toNat b1.toNat b2.toNat b3.toNat 2 : Nat) : Int) → Value.int .u32 X = .int .u32 (up4 b0.toNat b1.toNat b2.toNat b3.toNat 2 : Nat) := fun X h => by rw [h]
          have hj : (Value.int .i64 (1 : Int)) = .int .i64 (3 - ((2 : Nat) : Int)) := rfl
          go_roundw
          case rel =>
            exact Exists.intro (2 : Nat) ⟨by omega, hj, hu _ (by simp only [up4]; omega), rfl⟩
          case measure => simp [intOf]
        · go_wp2
          have hu : ∀ X : Int, X = ((up4 b0.toNat b1.toNat b2.toNat b3.toNat 3 : Nat) : Int) → Value.int .u32 X = .int .u32 (up4 b0.toNat b1.toNat b2.toNat b3.toNat 3 : Nat) := fun X h => by rw [h]
          have hj : (Value.int .i64 (0 : Int)) = .int .i64 (3 - ((3 : Nat) : Int)) := rfl
          refine And.intro (Exists.intro (3 : Nat) ⟨by omega, hj, hu _ (by simp only [up4]; omega), rfl⟩) (by simp [intOf])
        · go_wp2
          have hu : ∀ X : Int, X = ((up4 b0.toNat b1.toNat b2.toNat b3.toNat 4 : Nat) : Int) → Value.int .u32 X = .int .u32 (up4 b0.toNat b1.toNat b2.toNat b3.toNat 4 : Nat) := fun X h => by rw [h]
          have hj : (Value.int .i64 (-1 : Int)) = .int .i64 (3 - ((4 : Nat) : Int)) := rfl
          refine And.intro (Exists.intro (4 : Nat) ⟨by omega, hj, hu _ (by simp only [up4]; omega), rfl⟩) (by simp [intOf])
        · have hup : up4 b0.toNat b1.toNat b2.toNat b3.toNat 4 = rd4 b0 b1 b2 b3 := by simp only [up4, rd4]; omega
          rw [hup]
          obtain ⟨x, hx⟩ : ∃ x, x = rd4 b0 b1 b2 b3 := ⟨_, rfl⟩
          rw [← hx]
          have HX := Lib.hid hx
          clear hx hup
          go_wp2_with (first | (at_builtin; refine ap_new 85 37 _ 1 4 Tryd.underlying85 infoWord rfl (by decide) (by decide) rfl _ _ rfl w.heap.size _ k _ rfl (hown.alloc _) wr.heap.size 1 1 _ rfl (Bx.new wr 37 _) rfl ?c1 (by omega) (by have := hB.size; simp; omega) ?_; rotate_left; intro v3 w3 hown3 hg3 hat3))
          case c1 => simp [Value.oneCell']
          refine ⟨⟨k + 1, by omega, by have := HI.out; go_num, ?_, ?_⟩, ?_⟩
          · rw [show 4 * (k + 1) = 4 * k + 4 from by omega, HBT.out, vw_app, ← HX.out]
            exact hown3
          · exact (hB.alloc hB.size _).grown hg3 (by have := hB.size; simp; omega) (own_base hown)
          · have := HI.out; simp [intOf]; omega
    · have hk2 : k = q := by omega
      have hnl : ¬ i < s.size := by omega
      have hall : s.data.toList.take (4 * k) = s.data.toList := List.take_of_length_le (by rw [size_list]; omega)
      rw [hall] at hown
      have hbl : (bwords s.data.toList).length = k := by rw [bwords_len, size_list]; omega
      go_wp2_with fail
      go_ret2
      rw [hbl]
      exact ⟨_, rfl, hown, hB⟩
end Go.Proofs.YtgpohndnkecbeaaDoor
