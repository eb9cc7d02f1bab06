/- Contract: word.Words. -/
import Derived.Test.YtgpohndnkecbeaaDoorTy
import Derived.Test.YtgpohndnkecbeaaDoorPb
import Derived.Laws.BitsAllLaws
import Derived.Deep.RegionLaw
import Derived.Outline
namespace Go.Proofs.YtgpohndnkecbeaaDoor
open Go Go.RowKit Go.Proofs.Sc
theorem four_list (t : ByteArray) (h : 3 < t.size) : t.data.toList = t[0] :: t[1] :: t[2] :: t[3] :: t.data.toList.drop 4 := by
  have hl := size_list t
  have g : ∀ i (hi : i < t.size), t.data.toList[i]? = some t[i] := get_list t
  match hm : t.data.toList with
  | [] => rw [hm] at hl; simp at hl; omega
  | [_] => rw [hm] at hl; simp at hl; omega
  | [_, _] => rw [hm] at hl; simp at hl; omega
  | [_, _, _] => rw [hm] at hl; simp at hl; omega
  | a :: b :: c :: d :: l =>
    have g0 := g 0 (by omega); have g1 := g 1 (by omega); have g2 := g 2 (by omega); have g3 := g 3 (by omega)
    rw [hm] at g0 g1 g2 g3
    simp at g0 g1 g2 g3
    rw [← g0, ← g1, ← g2, ← g3]
    rfl
set_option maxRecDepth 100000 in
set_option maxHeartbeats 4000000 in
theorem words_any (s : ByteArray) (w : World) (h4 : s.size % 4 = 0) (hn : s.size ≤ 140737488355328) :
    Calls Tryd.prog 65 #[.string s] w fun e w' => ∃ v, e = .returned (.tuple #[v, .int .i64 0]) ∧ w'.ownsRow w.heap.size 37 1 v (bwords s.data.toList).length (vw (bwords s.data.toList)) ∧ Below w.heap.size w w' := by
  have e0 : ((s.size : Int) % 4 != 0) = false := by simp; omega
  go_enter Tryd.func65, Tryd.ntmps65
  go_wp2_with fail
  go_loopw [0, 4] (fun u v wr => ∃ (t : ByteArray) (pre : List Nat), u = .string t ∧ t.size % 4 = 0 ∧ t.size ≤ s.size ∧ bwords s.data.toList = pre ++ bwords t.data.toList ∧ wr.ownsRow w.heap.size 37 1 v pre.length (vw pre) ∧ Below w.heap.size w wr)
    (fun u _ _ => strLen u)
  case atStart => exact ⟨s, [], rfl, h4, Nat.le_refl _, rfl, World.ownsRow_nil _ _ _ _, Below.refl _ _⟩
  case round =>
    obtain ⟨t, pre, rfl, ht4, hts, hw, hown, hB⟩ := hrel
    have hpl : pre.length + t.size / 4 ≤ s.size / 4 := by
      have := congrArg List.length hw
      rw [List.length_append, bwords_len, bwords_len, size_list, size_list] at this
      omega
    have HW := Lib.hid hw
    clear hw
    obtain ⟨w2, rfl⟩ : ∃ w2 : World, w2 = wr := ⟨_, rfl⟩
    by_cases hlt : 0 < t.size
    · have h3 : 3 < t.size := by omega
      obtain ⟨a, ea⟩ : ∃ a, a = t[0] := ⟨_, rfl⟩
      obtain ⟨b, eb⟩ : ∃ b, b = t[1] := ⟨_, rfl⟩
      obtain ⟨c, ec⟩ : ∃ c, c = t[2] := ⟨_, rfl⟩
      obtain ⟨d, ed⟩ : ∃ d, d = t[3] := ⟨_, rfl⟩
      have HL : Hid (t.data.toList = a :: b :: c :: d :: t.data.toList.drop 4) := by
        subst ea eb ec ed
        exact four_list t h3
      have ea' := ea.symm
      have eb' := eb.symm
      have ec' := ec.symm
      have ed' := ed.symm
      clear ea eb ec ed
      have i1 : (1 : Int) < (t.size : Int) := by omega
      have i2 : (2 : Int) < (t.size : Int) := by omega
      have i3 : (3 : Int) < (t.size : Int) := by omega
      have la := a.toNat_lt
      have lb := b.toNat_lt
      have lc := c.toNat_lt
      have ld := d.toNat_lt
      have wa : IntKind.u32.wrap (a.toNat : Int) = a.toNat := by rw [IntKind.wrap_u32]; omega
      have wb : IntKind.u32.wrap (b.toNat : Int) = b.toNat := by rw [IntKind.wrap_u32]; omega
      have wc : IntKind.u32.wrap (c.toNat : Int) = c.toNat := by rw [IntKind.wrap_u32]; omega
      have wd : IntKind.u32.wrap (d.toNat : Int) = d.toNat := by rw [IntKind.wrap_u32]; omega
      obtain ⟨x1, hx1⟩ : ∃ x : Nat, x = a.toNat + 256 * b.toNat := ⟨_, rfl⟩
      obtain ⟨x2, hx2⟩ : ∃ x : Nat, x = x1 + 65536 * c.toNat := ⟨_, rfl⟩
      obtain ⟨x3, hx3⟩ : ∃ x : Nat, x = x2 + 16777216 * d.toNat := ⟨_, rfl⟩
      have o1 : bits .or .u32 (a.toNat : Int) (IntKind.u32.wrap ((b.toNat : Int) * 256)) = (x1 : Int) := by
        rw [IntKind.wrap_u32, show (b.toNat : Int) * 256 % 4294967296 = ((256 * b.toNat : Nat) : Int) from by omega, u32_or_nat _ _ (by omega) (by omega), Nat.or_comm, nat_join 8 _ _ (by omega) (by omega), hx1]
        omega
      have o2 : bits .or .u32 (x1 : Int) (IntKind.u32.wrap ((c.toNat : Int) * 65536)) = (x2 : Int) := by
        rw [IntKind.wrap_u32, show (c.toNat : Int) * 65536 % 4294967296 = ((65536 * c.toNat : Nat) : Int) from by omega, u32_or_nat _ _ (by omega) (by omega), Nat.or_comm, nat_join 16 _ _ (by omega) (by omega), hx2]
        omega
      have o3 : bits .or .u32 (x2 : Int) (IntKind.u32.wrap ((d.toNat : Int) * 16777216)) = (x3 : Int) := by
        rw [IntKind.wrap_u32, show (d.toNat : Int) * 16777216 % 4294967296 = ((16777216 * d.toNat : Nat) : Int) from by omega, u32_or_nat _ _ (by omega) (by omega), Nat.or_comm, nat_join 24 _ _ (by omega) (by omega), hx3]
        omega
      have HX : Hid (x3 = rd4 a b c d) := by show x3 = _; unfold rd4; omega
      clear hx1 hx2 hx3 la lb lc ld
      go_wp2_with fail
      go_region_law (first
        | (refine step_ap_new 85 37 _ 1 4 Tryd.underlying85 infoWord rfl (by decide) (by decide) rfl _ _ rfl w.heap.size u4 pre.length _ rfl (hown.alloc _).drew w2.heap.size 1 1 #[.int .u32 (x3 : Int)] rfl (Bx.new w2 37 _).drew rfl ?_ ?_ ?_ ?_; (next => simp [Value.oneCell']); (next => omega); (next => (have := hB.size; simp; omega)); intro v3 w3 hown3 hg3 hat3))
      all_goals
        clear o1 o2 o3 wa wb wc wd ea' eb' ec' ed' i1 i2 i3
        go_wp2_with fail
        refine ⟨⟨t.extract 4 t.size, pre ++ [x3], rfl, ?_, ?_, ?_, ?_, ?_⟩, ?_⟩
        · simp; omega
        · simp; omega
        · rw [HW.out, extract_list, List.take_of_length_le (by rw [size_list]; omega), HL.out, HX.out]
          simp [bwords]
        · rw [vw_app, List.length_append]
          exact hown3
        · exact (hB.alloc hB.size _).drew.grown hg3 (by have := hB.size; simp; omega) (own_base hown)
        · simp [strLen]; omega
    · obtain rfl : t = ByteArray.empty := ba_empty (by omega)
      go_wp2_with fail
      go_ret2
      have e : bwords s.data.toList = pre := by rw [HW.out]; simp [bwords]
      rw [e]
      exact ⟨_, rfl, hown, hB⟩
end Go.Proofs.YtgpohndnkecbeaaDoor
