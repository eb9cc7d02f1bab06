/- Plain law of the journal: a byte is spoilt. -/
import Derived.Test.YtgpohndnkecbeaaDoorPe
namespace Go.Proofs.Sc
open Go
theorem le4_inj {a b : Nat} (ha : a < 4294967296) (hb : b < 4294967296) (h : le4 a = le4 b) : a = b := by
  have h1 := len4_le4 a ha []
  have h2 := len4_le4 b hb []
  rw [h] at h1
  omega
theorem wbytes_inj {a b : List Nat} (hl : a.length = b.length) (ha : ∀ x ∈ a, x < 4294967296) (hb : ∀ x ∈ b, x < 4294967296) (h : wbytes a = wbytes b) : a = b := by
  have h1 := bwords_wbytes a ha []
  have h2 := bwords_wbytes b hb []
  rw [h, h2] at h1
  exact (List.append_cancel_right h1).symm
theorem sum_inj {s t : List UInt8} (h : sumB s = sumB t) : dig s = dig t :=
  wbytes_inj (by rw [(dig_w4 s).1, (dig_w4 t).1]) (dig_w4 s).2 (dig_w4 t).2 h
theorem rec_parts (r t : List UInt8) (h : r.length < 4294967296) :
    (recB r ++ t).take 4 = le4 r.length ∧ ((recB r ++ t).drop 4).take 16 = sumB (framed r) ∧ ((recB r ++ t).drop 20).take r.length = r := by
  have e : recB r ++ t = le4 r.length ++ (sumB (framed r) ++ (r ++ t)) := by rw [recB, Nat.mod_eq_of_lt h]; simp
  have l1 : (le4 r.length).length = 4 := rfl
  have l2 := sumB_len (framed r)
  rw [e]
  refine ⟨by rw [List.take_left' l1], by rw [List.drop_left' l1, List.take_left' l2], ?_⟩
  rw [show (20 : Nat) = 4 + 16 from rfl, ← List.drop_drop, List.drop_left' l1, List.drop_left' l2, List.take_left' rfl]
theorem take_set_ne {α : Type} (l : List α) (p : Nat) (v : α) (n : Nat) (hp : p < n) (hv : l[p]? ≠ some v) (hl : p < l.length) : (l.set p v).take n ≠ l.take n := by
  intro h
  have h1 := congrArg (·[p]?) h
  simp only [List.getElem?_take, if_pos hp, List.getElem?_set_self hl] at h1
  exact hv h1.symm
/-- One byte of a record is another one: whatever is read in its place is unlike it and has its digest. -/
theorem spoilt_rec {r tail r' : List UInt8} {p : Nat} {v : UInt8} (hr : r.length < 4294967296) (hp : p < 20 + r.length) (hv : (recB r ++ tail)[p]? ≠ some v) (h : firstP ((recB r ++ tail).set p v) = some r') :
    framed r' ≠ framed r ∧ dig (framed r') = dig (framed r) := by
  obtain ⟨h1, h2, h3⟩ := firstP_some h
  have hlen : (recB r ++ tail).length = 20 + r.length + tail.length := by rw [List.length_append, recB_len]
  obtain ⟨a1, a2, a3⟩ := rec_parts r tail hr
  have b := rec_parts r' (((recB r ++ tail).set p v).drop (20 + r'.length)) h2
  rw [← h1] at b
  obtain ⟨b1, b2, b3⟩ := b
  have hne : r' ≠ r := by
    rintro rfl
    have e1 : ((recB r' ++ tail).set p v).take (20 + r'.length) = recB r' := by
      conv => lhs; rw [h1]
      rw [List.take_left' (recB_len r')]
    have e2 : (recB r' ++ tail).take (20 + r'.length) = recB r' := List.take_left' (recB_len r')
    exact take_set_ne _ _ _ _ hp hv (by omega) (e1.trans e2.symm)
  refine ⟨fun e => hne ?_, ?_⟩
  · unfold framed at e
    have := congrArg (List.drop 4) e
    rwa [List.drop_left' (by rfl), List.drop_left' (by rfl)] at this
  · have hout : p < 4 ∨ 20 ≤ p ∨ (4 ≤ p ∧ p < 20) := by omega
    have same : ((recB r ++ tail).set p v |>.drop 4).take 16 = ((recB r ++ tail).drop 4).take 16 → dig (framed r') = dig (framed r) := fun e => sum_inj (by rw [← b2, ← a2, e])
    rcases hout with hp4 | hp20 | ⟨hp4, hp20⟩
    · exact same (by rw [List.drop_set_of_lt hp4])
    · refine same ?_
      rw [List.drop_set, if_neg (by omega), List.take_set_of_le (by omega)]
    · exfalso
      have e4 : ((recB r ++ tail).set p v).take 4 = (recB r ++ tail).take 4 := List.take_set_of_le hp4
      rw [b1, a1] at e4
      have el := le4_inj h2 hr e4
      have e20 : ((recB r ++ tail).set p v).drop 20 = (recB r ++ tail).drop 20 := List.drop_set_of_lt hp20
      rw [e20, el, a3] at b3
      exact hne b3.symm
/-- A byte of what was put is another one. -/
theorem reads_spoilt (l : List (List UInt8)) (p many : Nat) (v : UInt8) (hs : ∀ r ∈ l, r.length < 4294967296) (hl : l.length ≤ 1000) (hm : many < l.length) (h1 : total (l.take many) ≤ p) (h2 : p < total (l.take (many + 1))) (hv : (putB l)[p]? ≠ some v) :
    ∃ k, reads 1000 ((putB l).set p v) = l.take many ++ k ∧ (∀ r', k[0]? = some r' → framed r' ≠ framed (l[many]'hm) ∧ dig (framed r') = dig (framed (l[many]'hm))) := by
  have e : putB l = putB (l.take many) ++ (recB l[many] ++ putB (l.drop (many + 1))) := by
    have e1 : putB l = putB (l.take many) ++ putB (l.drop many) := by rw [← putB_app, List.take_append_drop]
    have e2 : l.drop many = l[many] :: l.drop (many + 1) := List.drop_eq_getElem_cons hm
    rw [e1, e2]; rfl
  have hlen : (putB (l.take many)).length = total (l.take many) := putB_len _
  have hlt : (l.take many).length = many := by rw [List.length_take]; omega
  rw [List.take_succ_eq_append_getElem hm, total_app] at h2
  have h3 : total [l[many]] = 20 + l[many].length := by simp [total]
  rw [e, List.set_append_right _ _ (by omega), hlen]
  have hr := reads_put (l.take many) ((recB l[many] ++ putB (l.drop (many + 1))).set (p - total (l.take many)) v) (fun r h => hs r (List.mem_of_mem_take h)) (1000 - many)
  rw [hlt, show many + (1000 - many) = 1000 from by omega] at hr
  refine ⟨_, hr, fun r' hr' => ?_⟩
  have hf : firstP ((recB l[many] ++ putB (l.drop (many + 1))).set (p - total (l.take many)) v) = some r' := by
    obtain ⟨j, hj⟩ : ∃ j, 1000 - many = j + 1 := ⟨999 - many, by omega⟩
    rw [hj, reads] at hr'
    split at hr'
    · cases hr'
    · rename_i q hq
      rw [hq]
      simpa using hr'
  refine spoilt_rec (hs _ (List.getElem_mem hm)) (by omega) ?_ hf
  rw [e, List.getElem?_append_right (by omega), hlen] at hv
  exact hv
end Go.Proofs.Sc
