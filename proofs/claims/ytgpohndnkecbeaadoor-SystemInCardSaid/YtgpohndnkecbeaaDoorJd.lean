/- Contract: journal.Put. -/
import Derived.Test.YtgpohndnkecbeaaDoorJa
namespace Go.Proofs.YtgpohndnkecbeaaDoor
open Go Go.RowKit Go.Proofs.Sc
set_option maxHeartbeats 400000 in
theorem put_many (A : Option Addr) (n c : Nat) (w : World) (hn : 1000 < n) (hn2 : n ≤ 9223372036854775807) :
    Calls Tryd.prog 22 #[.slice A n c] w fun e w' => e = .returned (.tuple #[.string ⟨#[]⟩, .int .i64 2]) ∧ w = w' := by
  have h1 : (1000 : Int) < (n : Int) := by omega
  go_enter Tryd.func22, Tryd.ntmps22
  go_wp2_with fail
  go_ret2
  exact ⟨rfl, rfl⟩
/-- A builder is kept by a world that keeps what was there. -/
theorem builder_below {B : Nat} {bs : List Value} {w w' : World} (h : Lib.IsBuilderF 83 5 B B bs w) (hb : Below w.heap.size w w') : Lib.IsBuilderF 83 5 B B bs w' := by
  have h1 : ∀ p, Lib.BuilderAtF 83 5 B B p bs w → Lib.BuilderAtF 83 5 B B p bs w' := by
    rintro p ⟨hB, v, hv, ho, hne⟩
    have hlt : B < w.heap.size := by
      rcases Nat.lt_or_ge B w.heap.size with h' | h'
      · exact h'
      · simp [Array.getElem?_eq_none h'] at hv
    refine ⟨hB, v, (hb.block B hlt).trans hv, ho.kept (row := none) ⟨hb.os, hb.tape, hb.output, hb.size, fun i hi _ => hb.block i hi⟩ ?_, hne⟩
    cases hv : v.ownBlock <;> simp
  exact h.elim (fun x => .inl (h1 _ x)) (fun x => .inr (h1 _ x))
def PutRel (w : World) (n : Nat) (l : List (List UInt8)) (i : Value) (wr : World) : Prop :=
  ∃ k : Nat, k ≤ n ∧ i = .int .i64 k ∧ Lib.IsBuilderF 83 5 w.heap.size w.heap.size (Lib.byteCells (putB (l.take k))) wr ∧ Below w.heap.size w wr
theorem putB_take (l : List ByteArray) (k : Nat) (hk : k < l.length) : putB ((l.map fun r => r.data.toList).take (k + 1)) = putB ((l.map fun r => r.data.toList).take k) ++ recB (gs l k).data.toList := by
  rw [List.take_succ_eq_append_getElem (by simpa using hk), putB_app]
  congr 1
  simp [putB, gs, hk]
theorem total_take_le (l : List (List UInt8)) (k : Nat) : total (l.take k) ≤ total l := by
  have h := total_app (l.take k) (l.drop k)
  rw [List.take_append_drop] at h
  omega
theorem total_get (l : List ByteArray) (k : Nat) (hk : k < l.length) : (gs l k).size + 20 + total ((l.map fun r => r.data.toList).take k) ≤ total (l.map fun r => r.data.toList) := by
  have h := total_app ((l.map fun r => r.data.toList).take (k + 1)) ((l.map fun r => r.data.toList).drop (k + 1))
  rw [List.take_append_drop] at h
  rw [List.take_succ_eq_append_getElem (by simpa using hk), total_app] at h
  have e : total [((l.map fun r => r.data.toList)[k]'(by simpa using hk))] = 20 + (gs l k).size := by
    simp [total, gs, hk]
  omega
set_option maxRecDepth 100000 in
set_option maxHeartbeats 1000000 in
theorem put_any (A : Option Addr) (n c : Nat) (l : List ByteArray) (w : World) (hT : Turns w) (hn : n ≤ 1000) (hr : Rs w A n 1 (vs l)) (hl : total (l.map fun r => r.data.toList) ≤ 800000) :
    Calls Tryd.prog 22 #[.slice A n c] w fun e w' => e = .returned (.tuple #[.string ⟨(putB (l.map fun r => r.data.toList)).toArray⟩, .int .i64 0]) ∧ Below w.heap.size w w' := by
  have hT0 := hT.lt
  have hll := hr.slen
  have h1 : ¬ (1000 : Int) < (n : Int) := by omega
  go_enter Tryd.func22, Tryd.ntmps22
  go_wp2_with fail
  go_loopw [13] (fun i wr => PutRel w n (l.map fun r => r.data.toList) i wr) (fun i _ => n - (intOf i).toNat)
  case atStart => exact ⟨0, by omega, rfl, .inl ⟨Nat.le_refl _, .slice none 0 0, heap_alloc_new _ _, World.ownsRowF_nil _ _ _ _, by simp [Value.ownBlock]⟩, (Below.refl _ _).alloc (Nat.le_refl _) _⟩
  case round =>
    obtain ⟨k, hk, rfl, hbl, hB⟩ := hrel
    obtain ⟨w2, rfl⟩ : ∃ w2 : World, w2 = wr := ⟨_, rfl⟩
    by_cases hlt : k < n
    · obtain ⟨g, o, rfl, hc⟩ := (hr.below hB).str hlt
      have htg := total_get l k (by omega)
      have hput := putB_take l k (by omega)
      have hpl := putB_len ((l.map fun r => r.data.toList).take k)
      obtain ⟨R, hR⟩ : ∃ R, R = gs l k := ⟨_, rfl⟩
      rw [← hR] at hc htg hput
      clear hR hr hll
      have hRs : R.size ≤ 800000 := by omega
      have hlb : total (List.take k (List.map (fun r => r.data.toList) l)) + R.size + 20 ≤ 800000 := by omega
      clear hl htg
      obtain ⟨T, hTk⟩ : ∃ T, T = List.take k (List.map (fun r => r.data.toList) l) := ⟨_, rfl⟩
      rw [← hTk] at hbl hput hpl hlb
      have hRr : Rs (w2.alloc (.cells #[.int .u32 R.size] 37)) (some ⟨w2.heap.size, 0, none⟩) 1 1 (vw [R.size]) := by
        have := Rs.of_bx (n := 1) (size := 1) (Bx.new w2 37 #[.int .u32 R.size]) rfl
        exact this
      go_wp2_with fail
      have hgw : ∀ i, gw [R.size] i < 4294967296 := gw_lt (by simp; omega)
      refine (bytes_any _ 1 1 [R.size] _ hRr hgw (by omega)).mono ?_
      rintro e w3 ⟨rfl, hb3⟩
      have hB3 : Below w2.heap.size w2 w3 := ((Below.refl _ _).alloc (Nat.le_refl _) _).trans (hb3.mono (by simp))
      have hw4 : wbytes [R.size] = le4 (R.data.toList.length % 4294967296) := by
        rw [size_list, Nat.mod_eq_of_lt (by omega)]; simp [wbytes]
      obtain ⟨H, hH⟩ : ∃ H : ByteArray, H = ⟨(wbytes [R.size]).toArray⟩ := ⟨_, rfl⟩
      have hHl : H.data.toList = le4 (R.data.toList.length % 4294967296) := by rw [hH, hw4]
      have hHs : H.size ≤ 4 := by rw [← size_list, hHl]; exact Nat.le_refl _
      rw [← hH]
      clear hH hRr hgw hw4
      have hT3 := (hT.below hB hT0).belowS hB3
      have hbl3 := builder_below hbl hB3
      clear hb3 hc
      go_wp2_with fail
      refine (sum_any _ _ hT3 (by rw [ByteArray.size_append]; omega)).mono ?_
      rintro e w4 ⟨rfl, hb4⟩
      have hbl4 := builder_below hbl3 hb4
      have e1 : (H ++ R).data.toList = framed R.data.toList := by rw [append_list, hHl]; rfl
      obtain ⟨M, hM⟩ : ∃ M : ByteArray, M = ⟨(sumB (H ++ R).data.toList).toArray⟩ := ⟨_, rfl⟩
      have hMl : M.data.toList = sumB (framed R.data.toList) := by rw [hM, e1]
      have hMs : M.size = 16 := by rw [← size_list, hMl, sumB_len]
      rw [← hM]
      clear hM e1 hbl hbl3 hT3
      have hB4 : Below w.heap.size w w4 := (hB.trans (hB3.mono hB.size)).trans (hb4.mono (Nat.le_trans hB.size hB3.size))
      have hMs' : M.size ≤ 16 := by omega
      go_wp2_with fail
      have hcat : (H ++ M ++ R).data.toList = recB R.data.toList := by rw [append_list, append_list, hHl, hMl]; rfl
      have hsz : (H ++ M ++ R).size = 20 + R.size := by rw [← size_list, hcat, recB_len, size_list]
      refine (write_any w.heap.size w.heap.size _ _ _ hbl4 (by rw [hsz]; simp only [Lib.byteCells, List.length_map]; omega) hB4.size).mono ?_
      rintro e w5 ⟨rfl, hbl5, hb5⟩
      go_wp2_with fail
      refine ⟨⟨k + 1, by omega, by go_num, ?_, hB4.trans hb5⟩, by simp [intOf]; omega⟩
      rw [hput]
      have h5 : Lib.strCells (H ++ M ++ R) = Lib.byteCells (recB R.data.toList) := by rw [← hcat]; rfl
      rw [h5] at hbl5
      refine .inr ?_
      simpa [Lib.byteCells] using hbl5
    · obtain rfl : k = n := by omega
      rw [List.take_of_length_le (by simp; omega)] at hbl
      go_wp2_with fail
      refine (Tryd.Builder_String_any_f _ _ _ _ hbl hB.size).mono ?_
      rintro e w3 ⟨rfl, -, hb3⟩
      go_wp2_with fail
      go_ret2
      exact ⟨rfl, hB.trans hb3⟩
end Go.Proofs.YtgpohndnkecbeaaDoor
