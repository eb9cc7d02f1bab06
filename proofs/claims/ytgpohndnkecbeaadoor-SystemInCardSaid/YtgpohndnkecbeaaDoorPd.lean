/- Plain laws of the journal: cut anywhere; the lists of strings. -/
import Derived.Test.YtgpohndnkecbeaaDoorJb
namespace Go.Proofs.Sc
open Go
theorem ba_inj {a b : ByteArray} (h : a.data.toList = b.data.toList) : a = b := ByteArray.ext (Array.ext' h)
theorem lsts_inj {a b : List ByteArray} (h : a.map (fun r => r.data.toList) = b.map fun r => r.data.toList) : a = b := by
  induction a generalizing b with
  | nil => cases b with
    | nil => rfl
    | cons _ _ => simp at h
  | cons x a ih => cases b with
    | nil => simp at h
    | cons y b =>
      simp only [List.map_cons, List.cons.injEq] at h
      rw [ba_inj h.1, ih h.2]
theorem total_take_mono (l : List (List UInt8)) {i j : Nat} (h : i ≤ j) : total (l.take i) ≤ total (l.take j) := by
  have := total_app (l.take i) ((l.take j).drop i)
  rw [show l.take i = (l.take j).take i by rw [List.take_take, Nat.min_eq_left h], List.take_append_drop] at this
  rw [show l.take i = (l.take j).take i by rw [List.take_take, Nat.min_eq_left h]]
  omega
/-- Cut anywhere, just those are read that are whole. -/
theorem reads_cut (l : List (List UInt8)) (cut many k : Nat) (hm : many ≤ l.length) (hk : many ≤ k) (hs : ∀ r ∈ l, r.length < 4294967296) (h1 : total (l.take many) ≤ cut) (h2 : many < l.length → cut < total (l.take (many + 1))) :
    reads k ((putB l).take cut) = l.take many := by
  have e : putB l = putB (l.take many) ++ putB (l.drop many) := by rw [← putB_app, List.take_append_drop]
  have hlen : (putB (l.take many)).length = total (l.take many) := putB_len _
  rw [e, List.take_append, List.take_of_length_le (by omega), hlen]
  have hl : (l.take many).length = many := by rw [List.length_take]; omega
  have hr := reads_put (l.take many) ((putB (l.drop many)).take (cut - total (l.take many))) (fun r h => hs r (List.mem_of_mem_take h)) (k - many)
  rw [hl, show many + (k - many) = k from by omega] at hr
  rw [hr]
  suffices h : firstP ((putB (l.drop many)).take (cut - total (l.take many))) = none by rw [reads_of_none _ h, List.append_nil]
  rcases Nat.lt_or_ge many l.length with hlt | hge
  · have h3 := h2 hlt
    rw [List.take_succ_eq_append_getElem hlt, total_app] at h3
    have h4 : total [l[many]] = 20 + l[many].length := by simp [total]
    have e2 : l.drop many = l[many] :: l.drop (many + 1) := List.drop_eq_getElem_cons hlt
    have e3 : putB (l.drop many) = recB l[many] ++ putB (l.drop (many + 1)) := by rw [e2]; rfl
    rw [e3, List.take_append, show cut - total (l.take many) - (recB l[many]).length = 0 by rw [recB_len]; omega, List.take_zero, List.append_nil]
    exact firstP_part _ (hs _ (List.getElem_mem hlt)) _ (by omega)
  · rw [List.drop_of_length_le hge]
    simp [putB, firstP]
theorem reads_all (l : List (List UInt8)) (k : Nat) (hk : l.length ≤ k) (hs : ∀ r ∈ l, r.length < 4294967296) : reads k (putB l) = l := by
  have h := reads_cut l (total l) l.length k (Nat.le_refl _) hk hs (by rw [List.take_length]; exact Nat.le_refl _) (by omega)
  rwa [List.take_length, List.take_of_length_le (by rw [putB_len]; exact Nat.le_refl _)] at h
end Go.Proofs.Sc
