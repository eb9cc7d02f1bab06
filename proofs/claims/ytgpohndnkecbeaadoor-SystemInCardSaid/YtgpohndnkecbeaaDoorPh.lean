/- Plain functions: a store of artifacts by their digests. -/
import Derived.Test.YtgpohndnkecbeaaDoorPg
import Derived.Test.YtgpohndnkecbeaaDoorMb
namespace Go.Proofs.Sc
open Go

def dg (a : ByteArray) : List Nat := dig a.data.toList
def dgs (l : List ByteArray) : Dl := l.map dg
theorem dg_w4 (a : ByteArray) : W4 (dg a) := dig_w4 _
theorem dgs_wl (l : List ByteArray) : Wl (dgs l) := by
  intro d hd
  obtain ⟨a, _, rfl⟩ := List.mem_map.1 hd
  exact dg_w4 a
theorem dgs_len (l : List ByteArray) : (dgs l).length = l.length := by simp [dgs]
theorem dgs_app (a b : List ByteArray) : dgs (a ++ b) = dgs a ++ dgs b := by simp [dgs]
theorem dgs_get (l : List ByteArray) (i : Nat) (h : i < l.length) : (dgs l).getD i [] = dg (gs l i) := by
  simp [dgs, gs, List.getD_eq_getElem?_getD, h]
/-- The number of the item with a digest. -/
def findP : List ByteArray → List Nat → Option Nat
  | [], _ => none
  | a :: l, d => if dg a = d then some 0 else (findP l d).map (· + 1)
theorem findP_no (l : List ByteArray) (d : List Nat) (h : ∀ j, j < l.length → dg (gs l j) ≠ d) : findP l d = none := by
  induction l with
  | nil => rfl
  | cons a l ih =>
    have h0 : dg a ≠ d := h 0 (by simp)
    rw [findP, if_neg h0, ih (fun j hj => by have := h (j + 1) (by simp; omega); simpa [gs] using this)]
    rfl
theorem findP_at (l : List ByteArray) (d : List Nat) (k : Nat) (hk : k < l.length) (h : ∀ j, j < k → dg (gs l j) ≠ d) (he : dg (gs l k) = d) : findP l d = some k := by
  induction l generalizing k with
  | nil => simp at hk
  | cons a l ih =>
    cases k with
    | zero => rw [findP, if_pos (by simpa [gs] using he)]
    | succ k =>
      have h0 : dg a ≠ d := by simpa [gs] using h 0 (by omega)
      rw [findP, if_neg h0, ih k (by simpa using hk) (fun j hj => by have := h (j + 1) (by omega); simpa [gs] using this) (by simpa [gs] using he)]
      rfl
theorem findP_some {l : List ByteArray} {d : List Nat} {k : Nat} (h : findP l d = some k) : k < l.length ∧ dg (gs l k) = d ∧ ∀ j, j < k → dg (gs l j) ≠ d := by
  induction l generalizing k with
  | nil => cases h
  | cons a l ih =>
    rw [findP] at h
    split at h
    · rename_i h0
      injection h with h
      subst h
      exact ⟨by simp, by simpa [gs] using h0, by omega⟩
    · rename_i h0
      cases hf : findP l d with
      | none => rw [hf] at h; cases h
      | some m =>
        rw [hf] at h
        injection h with h
        subst h
        obtain ⟨h1, h2, h3⟩ := ih hf
        refine ⟨by simpa using h1, by simpa [gs] using h2, fun j hj => ?_⟩
        cases j with
        | zero => simpa [gs] using h0
        | succ j =>
          have hj2 : j + 1 < m + 1 := hj
          simpa [gs] using h3 j (by omega)
theorem findP_none {l : List ByteArray} {d : List Nat} (h : findP l d = none) : ∀ j, j < l.length → dg (gs l j) ≠ d := by
  induction l with
  | nil => intro j hj; simp at hj
  | cons a l ih =>
    rw [findP] at h
    split at h
    · cases h
    · rename_i h0
      intro j hj
      cases j with
      | zero => simpa [gs] using h0
      | succ j => simpa [gs] using ih (by simpa using h) j (by simpa using hj)
theorem gs_app_left (l m : List ByteArray) (j : Nat) (h : j < l.length) : gs (l ++ m) j = gs l j := by
  simp [gs, List.getD_eq_getElem?_getD, List.getElem?_append_left h]
theorem gs_snoc (l : List ByteArray) (a : ByteArray) : gs (l ++ [a]) l.length = a := by simp [gs]
theorem findP_snoc {l : List ByteArray} {a : ByteArray} (h : findP l (dg a) = none) : findP (l ++ [a]) (dg a) = some l.length :=
  findP_at _ _ _ (by simp) (fun j hj => by rw [gs_app_left _ _ _ hj]; exact findP_none h j hj) (by rw [gs_snoc])
theorem findP_left {l m : List ByteArray} {d : List Nat} {k : Nat} (h : findP l d = some k) : findP (l ++ m) d = some k := by
  obtain ⟨h1, h2, h3⟩ := findP_some h
  exact findP_at _ _ _ (by simp; omega) (fun j hj => by rw [gs_app_left _ _ _ (by omega)]; exact h3 j hj) (by rw [gs_app_left _ _ _ h1]; exact h2)
/-- May a store be? -/
def rightP (l : List ByteArray) : Prop := l.length ≤ 1000 ∧ ∀ i k, k < i → i < l.length → dg (gs l i) ≠ dg (gs l k)
/-- One more: the store, the item's number, the error. -/
def addP (l : List ByteArray) (a : ByteArray) : List ByteArray × Nat × Nat :=
  match findP l (dg a) with
  | some i => if gs l i = a then (l, i, 0) else ([], 0, 8)
  | none => if 1000 ≤ l.length then ([], 0, 2) else (l ++ [a], l.length, 0)
theorem addP_cases (l : List ByteArray) (a : ByteArray) :
    (∃ i, findP l (dg a) = some i ∧ i < l.length ∧ gs l i = a ∧ addP l a = (l, i, 0)) ∨ (∃ i, findP l (dg a) = some i ∧ i < l.length ∧ gs l i ≠ a ∧ addP l a = ([], 0, 8)) ∨
    (findP l (dg a) = none ∧ 1000 ≤ l.length ∧ addP l a = ([], 0, 2)) ∨ (findP l (dg a) = none ∧ l.length < 1000 ∧ addP l a = (l ++ [a], l.length, 0)) := by
  cases hf : findP l (dg a) with
  | some i =>
    have hi := (findP_some hf).1
    by_cases h : gs l i = a
    · exact .inl ⟨i, rfl, hi, h, by rw [addP, hf]; exact if_pos h⟩
    · exact .inr (.inl ⟨i, rfl, hi, h, by rw [addP, hf]; exact if_neg h⟩)
  | none =>
    by_cases h : 1000 ≤ l.length
    · exact .inr (.inr (.inl ⟨rfl, h, by rw [addP, hf]; exact if_pos h⟩))
    · exact .inr (.inr (.inr ⟨rfl, by omega, by rw [addP, hf]; exact if_neg h⟩))
/-- The bytes that a digest gets. -/
def getP (l : List ByteArray) (d : List Nat) : ByteArray × Nat :=
  match findP l d with
  | some i => (gs l i, 0)
  | none => (ByteArray.empty, 6)
/-- What is added is got, and added again it changes nothing. -/
theorem holds_add {l : List ByteArray} {a : ByteArray} (h : (addP l a).2.2 = 0) :
    findP (addP l a).1 (dg a) = some (addP l a).2.1 ∧ gs (addP l a).1 (addP l a).2.1 = a ∧ addP (addP l a).1 a = addP l a ∧ l.length ≤ (addP l a).1.length ∧ (addP l a).1.length ≤ l.length + 1 ∧ (addP l a).2.1 < (addP l a).1.length := by
  rcases addP_cases l a with ⟨i, hf, hi, hg, e⟩ | ⟨i, _, _, _, e⟩ | ⟨_, _, e⟩ | ⟨hf, hl, e⟩
  · rw [e]; exact ⟨hf, hg, e, Nat.le_refl _, Nat.le_succ _, hi⟩
  · rw [e] at h; cases h
  · rw [e] at h; cases h
  · rw [e]
    have hs := findP_snoc hf
    refine ⟨hs, gs_snoc _ _, ?_, by simp, by simp, by simp⟩
    show addP (l ++ [a]) a = _
    rw [addP, hs]
    exact if_pos (gs_snoc _ _)
/-- A record is joined to a store if none with its digest is there. -/
def joinP (s : List ByteArray) (a : ByteArray) : List ByteArray := if findP s (dg a) = none then s ++ [a] else s
def openP (l : List ByteArray) : List ByteArray := l.foldl joinP []
theorem join_right (s l : List ByteArray) (h : ∀ i k, k < i → i < (s ++ l).length → dg (gs (s ++ l) i) ≠ dg (gs (s ++ l) k)) : l.foldl joinP s = s ++ l := by
  induction l generalizing s with
  | nil => simp
  | cons a l ih =>
    have e : s ++ a :: l = (s ++ [a]) ++ l := by simp
    have hn : findP s (dg a) = none := by
      refine findP_no _ _ fun j hj he => ?_
      have := h s.length j hj (by simp)
      rw [e, gs_app_left _ _ _ (by simp), gs_app_left _ _ j (by simp; omega), gs_snoc, gs_app_left _ _ _ hj] at this
      exact this he.symm
    rw [List.foldl_cons, joinP, if_pos hn, e]
    exact ih _ (by rw [← e]; exact h)
theorem open_right {l : List ByteArray} (h : rightP l) : openP l = l := by
  have := join_right [] l (by simpa using h.2)
  simpa [openP] using this
theorem right_take {l : List ByteArray} (h : rightP l) (k : Nat) : rightP (l.take k) := by
  refine ⟨by rw [List.length_take]; have := h.1; omega, fun i j hj hi => ?_⟩
  rw [List.length_take] at hi
  have e : ∀ x, x < k → gs (l.take k) x = gs l x := fun x hx => by simp [gs, List.getD_eq_getElem?_getD, hx]
  rw [e i (by omega), e j (by omega)]
  exact h.2 i j hj (by omega)
theorem join_len (s l : List ByteArray) : (l.foldl joinP s).length ≤ s.length + l.length := by
  induction l generalizing s with
  | nil => simp
  | cons a l ih =>
    rw [List.foldl_cons, List.length_cons]
    have := ih (joinP s a)
    have h2 : (joinP s a).length ≤ s.length + 1 := by
      unfold joinP; split <;> simp
    omega
/-- Records, added one by one; those that are refused are left out. -/
def addsP (s l : List ByteArray) : List ByteArray := l.foldl (fun s a => if (addP s a).2.2 = 0 then (addP s a).1 else s) s
theorem adds_join (s l : List ByteArray) (h : s.length + l.length ≤ 1000) : addsP s l = l.foldl joinP s := by
  induction l generalizing s with
  | nil => rfl
  | cons a l ih =>
    rw [List.length_cons] at h
    have e : (if (addP s a).2.2 = 0 then (addP s a).1 else s) = joinP s a := by
      rcases addP_cases s a with ⟨i, hf, _, _, e⟩ | ⟨i, hf, _, _, e⟩ | ⟨hf, hl, e⟩ | ⟨hf, hl, e⟩
      · rw [e, joinP, hf]; simp
      · rw [e, joinP, hf]; simp
      · omega
      · rw [e, joinP, if_pos hf]; simp
    have h2 : (joinP s a).length ≤ s.length + 1 := by
      unfold joinP; split <;> simp
    rw [addsP, List.foldl_cons, List.foldl_cons, e]
    exact ih _ (by omega)
theorem join_has (s l : List ByteArray) (d : List Nat) (h : findP s d ≠ none) : findP (l.foldl joinP s) d ≠ none := by
  induction l generalizing s with
  | nil => exact h
  | cons a l ih =>
    rw [List.foldl_cons]
    refine ih _ ?_
    unfold joinP
    split
    · cases hf : findP s d with
      | none => exact absurd hf h
      | some k => rw [findP_left hf]; simp
    · exact h
theorem join_all (s l : List ByteArray) : ∀ a ∈ l, findP (l.foldl joinP s) (dg a) ≠ none := by
  induction l generalizing s with
  | nil => intro a h; cases h
  | cons x l ih =>
    intro a ha
    rw [List.foldl_cons]
    rcases List.mem_cons.1 ha with rfl | ha
    · refine join_has _ _ _ ?_
      unfold joinP
      split
      · rename_i hf; rw [findP_snoc hf]; simp
      · assumption
    · exact ih _ a ha
theorem join_none (s l : List ByteArray) (h : ∀ a ∈ l, findP s (dg a) ≠ none) : l.foldl joinP s = s := by
  induction l with
  | nil => rfl
  | cons a l ih =>
    rw [List.foldl_cons, joinP, if_neg (h a (by simp))]
    exact ih (fun x hx => h x (by simp [hx]))
/-- Records that stand there twice are one item, the first one. -/
theorem open_twice (l : List ByteArray) : openP (l ++ l) = openP l := by
  rw [openP, List.foldl_append]
  exact join_none _ _ (join_all [] l)
/-- A store only grows. -/
theorem adds_grow (s l : List ByteArray) : ∃ m, addsP s l = s ++ m ∧ m.length ≤ l.length := by
  induction l generalizing s with
  | nil => exact ⟨[], by simp [addsP], by simp⟩
  | cons a l ih =>
    have h1 : ∃ m, (if (addP s a).2.2 = 0 then (addP s a).1 else s) = s ++ m ∧ m.length ≤ 1 := by
      rcases addP_cases s a with ⟨i, _, _, _, e⟩ | ⟨i, _, _, _, e⟩ | ⟨_, _, e⟩ | ⟨_, _, e⟩
      · exact ⟨[], by rw [e]; simp, by simp⟩
      · exact ⟨[], by rw [e]; simp, by simp⟩
      · exact ⟨[], by rw [e]; simp, by simp⟩
      · exact ⟨[a], by rw [e]; simp, by simp⟩
    obtain ⟨m1, e1, l1⟩ := h1
    obtain ⟨m2, e2, l2⟩ := ih (s ++ m1)
    refine ⟨m1 ++ m2, ?_, by simp; omega⟩
    rw [addsP, List.foldl_cons, e1]
    rw [addsP] at e2
    rw [e2]; simp
end Go.Proofs.Sc
