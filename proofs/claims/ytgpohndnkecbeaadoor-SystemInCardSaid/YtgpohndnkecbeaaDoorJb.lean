/- Contract: the iterator of journal.records. -/
import Derived.Test.YtgpohndnkecbeaaDoorJa
import Derived.Test.YtgpohndnkecbeaaDoorRg
import Derived.Shelf.Abstract
import Derived.Shelf.RegionOpen
import Derived.OwnWalkIn
import Derived.TacticsInMore
import Derived.LoopNIn
import Derived.LoopIn
namespace Go.Proofs.YtgpohndnkecbeaaDoor
open Go Go.RowKit Go.Proofs.Sc Go.Shelf
attribute [local go_sem] Oper.semAt_some
/-- What has come, when pre has come of s. -/
def lsts (l : List ByteArray) : List (List UInt8) := l.map fun r => r.data.toList
theorem lsts_app (a b : List ByteArray) : lsts (a ++ b) = lsts a ++ lsts b := by simp [lsts]
theorem lsts_len (a : List ByteArray) : (lsts a).length = a.length := by simp [lsts]
/-- Records that an iterator hands on: no longer than what they stand in. -/
abbrev BS := { x : ByteArray // x.size ≤ 900000 }
def lstb (l : List BS) : List (List UInt8) := l.map fun r => r.1.data.toList
theorem lstb_app (a b : List BS) : lstb (a ++ b) = lstb a ++ lstb b := by simp [lstb]
theorem lstb_lsts (l : List BS) : lstb l = lsts (l.map (·.1)) := by simp [lstb, lsts]
theorem lstb_total (l : List BS) : total (lstb l) ≤ l.length * 900020 := by
  induction l with
  | nil => simp [lstb, total]
  | cons r l ih =>
    have h := r.2
    have e : total (lstb (r :: l)) = 20 + r.1.size + total (lstb l) := by simp [lstb, total]
    rw [e, List.length_cons]
    omega
def RecRel (s : ByteArray) (Bs : Nat) (J : List BS → World → Prop) (_W wr : World) : Prop :=
  ∃ (pre : List BS) (t : ByteArray), J pre wr ∧ Bx wr Bs 9 #[.string t] ∧ t.data.toList = s.data.toList.drop (total (lstb pre)) ∧ reads pre.length s.data.toList = lstb pre ∧ Turns wr
/-- How many bytes a captured string has. -/
def boxLen (Bs : Nat) (w : World) : Nat :=
  match w.cell? ⟨Bs, 0, none⟩ with
  | some (.string t) => t.size
  | _ => 0
theorem boxLen_eq {Bs : Nat} {w : World} {t : ByteArray} (h : w.cell? ⟨Bs, 0, none⟩ = some (.string t)) : boxLen Bs w = t.size := by simp [boxLen, h]
set_option maxRecDepth 100000 in
set_option maxHeartbeats 2000000 in
theorem rec1_in (n l Bs : Nat) (s : ByteArray) (hn : s.size ≤ 900000) (hBs0 : Bs ≠ 0) (J Jx : List BS → World → Prop) (W : World) (hJ : AbB Bs W.heap.size J) (_hJx : AbB Bs W.heap.size Jx)
    (hY : ∀ pre x W1, J pre W1 → pre.length < 900000 → YieldAt Fence.wide (n - 1) Tryd.prog l #[.string x.1] W1 fun e W' =>
      (e = .returned (.bool true) ∧ J (pre ++ [x]) W' ∧ ∀ k, (k = 0 ∨ k = Bs) → W'.heap[k]? = W1.heap[k]?) ∨ (e = .returned (.bool false) ∧ Jx (pre ++ [x]) W'))
    (h0 : J [] W) (hT : Turns W) (hb : Bx W Bs 9 #[.string s]) :
    CallsIn Fence.wide n Tryd.prog 89 #[.func (.yield l) #[] #[], .pointer (some ⟨Bs, 0, none⟩)] W fun e W' => (∃ v, e = .returned v) ∧
      ((∃ xs : List BS, (reads xs.length s.data.toList = lstb xs ∧ firstP (s.data.toList.drop (total (lstb xs))) = none) ∧ J xs W') ∨ (∃ pre : List BS, (reads pre.length s.data.toList = lstb pre) ∧ Jx pre W')) := by
  refine callsIn_of_wp Tryd.func89 rfl trivial ?_ rfl
  simp only [Tryd.ntmps89, List.size_toArray, List.length_cons, List.length_nil, Nat.reduceAdd, Nat.reduceSub, Array.replicate_succ, Array.replicate_zero, List.push_toArray, List.append_toArray, List.nil_append, List.cons_append]
  gi_wp2
  gi_loopw [3] (fun _ wr => RecRel s Bs J W wr) (fun _ wr => boxLen Bs wr)
  case atStart => exact ⟨[], s, h0, hb, by simp [lstb, total], rfl, hT⟩
  case round =>
    obtain ⟨pre, t, hj, hbt, htl, hpre, hTr⟩ := hrel
    obtain ⟨w2, rfl⟩ : ∃ w2 : World, w2 = wr := ⟨_, rfl⟩
    have hc : w2.cell? ⟨Bs, 0, none⟩ = some (.string t) := hbt.cell 0
    have hts : t.size ≤ 900000 := by
      rw [← size_list, htl, List.length_drop, size_list]; omega
    have HT := Lib.hid htl
    have HP := Lib.hid hpre
    clear htl hpre
    gi_wp2_with fail
    refine ⟨trivial, (fun h => nomatch h), ?_⟩
    refine (callsIn_wide.2 (first_any t _ hTr hts)).mono ?_
    rintro e w3 ⟨r, ok, rfl, hf, hb3⟩
    have hj3 : J pre w3 := hJ.below hj hb3
    have hbt3 : Bx w3 Bs 9 #[.string t] := hbt.belowS hb3
    have hT3 : Turns w3 := hTr.belowS hb3
    have hc3 : w3.cell? ⟨Bs, 0, none⟩ = some (.string t) := hbt3.cell 0
    have hf3 := hbt3.frozen 0
    clear hc
    have hwide : ∀ f : FuncId, Fence.wide.fn f := fun _ => trivial
    cases ok with
    | false =>
      have hno := hf.2 rfl
      gi_wp2
      refine bodyPost_ret (results_none rfl _ _ _) rfl ?_
      exact ⟨⟨_, rfl⟩, .inl ⟨pre, ⟨HP.out, by rw [← HT.out]; exact hno⟩, hj3⟩⟩
    | true =>
      have hyes := hf.1 rfl
      obtain ⟨e1, e2, e3⟩ := firstP_some hyes
      have hlen : pre.length < 900000 := by
        have h1 := total_ge (lstb pre)
        have h2 := reads_total pre.length s.data.toList
        rw [HP.out, size_list] at h2
        rw [lstb, List.length_map] at h1
        rw [lstb] at h2
        omega
      have hrs : r.size ≤ 900000 := by
        rw [size_list, size_list] at e3
        omega
      obtain ⟨fn, tmps, assign, body, hy, hR⟩ := hY pre ⟨r, hrs⟩ w3 hj3 hlen
      have HE := Lib.hid e1
      clear e1
      gi_wp2_with fail
      refine ⟨(fun h => nomatch h), hR.mono ?_⟩
      rintro e w4 (⟨rfl, hj4, hk4⟩ | ⟨rfl, hjx4⟩)
      · have hbt4 : Bx w4 Bs 9 #[.string t] := (hk4 Bs (.inr rfl)).trans hbt3
        have hc4 : w4.cell? ⟨Bs, 0, none⟩ = some (.string t) := hbt4.cell 0
        have hf4 := hbt4.frozen 0
        have hr4 : (20 : Int) + (r.size : Int) ≤ (t.size : Int) := by
          rw [size_list, size_list] at e3
          omega
        clear hc3
        gi_wp2_with fail
        have hr5 : 20 + r.size ≤ t.size := by omega
        have htx : (t.extract (20 + r.size) t.size).data.toList = t.data.toList.drop (20 + r.size) := by
          rw [extract_list, List.take_of_length_le (by rw [size_list]; omega)]
        have hbx5 : Bx (w4.setCell ⟨Bs, 0, none⟩ (.string (t.extract (20 + r.size) t.size))) Bs 9 #[.string (t.extract (20 + r.size) t.size)] := hbt4.set 0 _
        refine ⟨⟨pre ++ [⟨r, hrs⟩], t.extract (20 + r.size) t.size, hJ.set hj4 _, hbx5, ?_, ?_, ?_⟩, ?_⟩
        · rw [htx, HT.out, List.drop_drop, lstb_app, total_app]
          simp [total, lstb]
        · rw [List.length_append, List.length_singleton, reads_snoc _ _ r.data.toList (by rw [HP.out, lstb, List.length_map]) (by rw [HP.out, ← HT.out]; exact hyes), HP.out, lstb, lstb, List.map_append]
          rfl
        · obtain ⟨tt, fr, h⟩ := hT3
          refine ⟨tt, fr, (Below.heap_setCell _ _ _ _ ?_).trans ((hk4 0 (.inl rfl)).trans h)⟩
          exact fun e => hBs0 e.symm
        · rw [boxLen_eq (hbx5.cell 0), boxLen_eq (hbt.cell 0), ByteArray.size_extract]
          omega
      · gi_wp2_with fail
        refine bodyPost_ret (results_none rfl _ _ _) rfl ?_
        refine ⟨⟨_, rfl⟩, .inr ⟨pre ++ [⟨r, hrs⟩], ?_, hjx4⟩⟩
        rw [List.length_append, List.length_singleton, reads_snoc _ _ r.data.toList (by rw [HP.out, lstb, List.length_map]) (by rw [HP.out, ← HT.out]; exact hyes), HP.out, lstb, lstb, List.map_append]
        rfl
end Go.Proofs.YtgpohndnkecbeaaDoor
