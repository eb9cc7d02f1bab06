/- Plain functions: the tree of digests: halves, root, proofs, and what they show. -/
import Derived.Test.YtgpohndnkecbeaaDoorPb
namespace Go.Proofs.Sc

def hgo : Nat → Nat → Nat → Nat
  | 0, k, _ => k
  | f + 1, k, n => if 2 * k < n then hgo f (2 * k) n else k
/-- The greatest power of two below n. -/
def half (n : Nat) : Nat := hgo n 1 n
theorem hgo_stop (f k n : Nat) (h : ¬ 2 * k < n) : hgo f k n = k := by
  cases f with
  | zero => rfl
  | succ f => rw [hgo, if_neg h]
theorem hgo_ge (f k n : Nat) : k ≤ hgo f k n := by
  induction f generalizing k with
  | zero => exact Nat.le_refl _
  | succ f ih =>
    rw [hgo]
    split
    · exact Nat.le_trans (by omega) (ih (2 * k))
    · exact Nat.le_refl _
theorem hgo_lt (f k n : Nat) (h : k < n) : hgo f k n < n := by
  induction f generalizing k with
  | zero => exact h
  | succ f ih =>
    rw [hgo]
    split
    · exact ih _ (by assumption)
    · exact h
theorem hgo_top (f k n : Nat) (h : n ≤ k + f) (hk : 0 < k) : n ≤ 2 * hgo f k n := by
  induction f generalizing k with
  | zero => rw [hgo]; omega
  | succ f ih =>
    rw [hgo]
    split
    · exact ih _ (by omega) (by omega)
    · omega
theorem hgo_pow (f k n : Nat) (j : Nat) (h : k = 2 ^ j) : ∃ i, hgo f k n = 2 ^ i := by
  induction f generalizing k j with
  | zero => exact ⟨j, h⟩
  | succ f ih =>
    rw [hgo]
    split
    · exact ih _ (j + 1) (by rw [h, Nat.pow_succ]; omega)
    · exact ⟨j, h⟩
theorem half_pos (n : Nat) : 0 < half n := hgo_ge n 1 n
theorem half_lt {n : Nat} (h : 1 < n) : half n < n := hgo_lt n 1 n h
theorem half_top (n : Nat) : n ≤ 2 * half n := hgo_top n 1 n (by omega) (by omega)
theorem half_pow (n : Nat) : ∃ i, half n = 2 ^ i := hgo_pow n 1 n 0 rfl
theorem half_eq {m n : Nat} (h1 : half n < m) (h2 : m ≤ n) (h3 : 1 < m) : half m = half n := by
  obtain ⟨i, hi⟩ := half_pow m
  obtain ⟨j, hj⟩ := half_pow n
  have a1 := half_lt h3
  have a2 := half_top m
  have a4 := half_top n
  have a3 := half_lt (n := n) (by omega)
  rw [hi] at a1 a2 ⊢
  rw [hj] at a3 a4 h1 ⊢
  rcases Nat.lt_trichotomy i j with h | h | h
  · have : 2 ^ (i + 1) ≤ 2 ^ j := Nat.pow_le_pow_right (by omega) h
    rw [Nat.pow_succ] at this; omega
  · rw [h]
  · have : 2 ^ (j + 1) ≤ 2 ^ i := Nat.pow_le_pow_right (by omega) h
    rw [Nat.pow_succ] at this; omega

abbrev Dl := List (List Nat)
/-- The root over digests. -/
def root (l : Dl) : List Nat :=
  if l.length = 0 then dig [] else if l.length = 1 then l.headD [] else pairD (root (l.take (half l.length))) (root (l.drop (half l.length)))
termination_by l.length
decreasing_by
  · rw [List.length_take]; have := half_lt (n := l.length) (by omega); omega
  · rw [List.length_drop]; have := half_pos l.length; omega
theorem root_nil : root [] = dig [] := by rw [root]; rfl
theorem root_one (d : List Nat) : root [d] = d := by rw [root]; rfl
theorem root_two (l : Dl) (h : 1 < l.length) : root l = pairD (root (l.take (half l.length))) (root (l.drop (half l.length))) := by
  rw [root, if_neg (by omega), if_neg (by omega)]
/-- All are digests. -/
def Wl (l : Dl) : Prop := ∀ d ∈ l, W4 d
theorem Wl.take {l : Dl} (h : Wl l) (k : Nat) : Wl (l.take k) := fun d hd => h d (List.mem_of_mem_take hd)
theorem Wl.drop {l : Dl} (h : Wl l) (k : Nat) : Wl (l.drop k) := fun d hd => h d (List.mem_of_mem_drop hd)
theorem root_w4 (l : Dl) (h : Wl l) : W4 (root l) := by
  induction l using root.induct with
  | case1 l h0 => rw [List.eq_nil_of_length_eq_zero h0, root_nil]; exact dig_w4 _
  | case2 l h0 h1 =>
    match l, h1 with
    | [d], _ => rw [root_one]; exact h d (by simp)
  | case3 l h0 h1 ih1 ih2 => rw [root_two l (by omega)]; exact pair_w4 (ih1 (h.take _)) (ih2 (h.drop _))
/-- The proof of a place. -/
def way (l : Dl) (i : Nat) : Dl :=
  if l.length ≤ 1 then [] else if i < half l.length then way (l.take (half l.length)) i ++ [root (l.drop (half l.length))] else way (l.drop (half l.length)) (i - half l.length) ++ [root (l.take (half l.length))]
termination_by l.length
decreasing_by
  · rw [List.length_take]; have := half_lt (n := l.length) (by omega); omega
  · rw [List.length_drop]; have := half_pos l.length; omega
theorem way_one (l : Dl) (i : Nat) (h : l.length ≤ 1) : way l i = [] := by rw [way, if_pos h]
theorem way_left (l : Dl) (i : Nat) (h : 1 < l.length) (hi : i < half l.length) : way l i = way (l.take (half l.length)) i ++ [root (l.drop (half l.length))] := by
  rw [way, if_neg (by omega), if_pos hi]
theorem way_right (l : Dl) (i : Nat) (h : 1 < l.length) (hi : half l.length ≤ i) : way l i = way (l.drop (half l.length)) (i - half l.length) ++ [root (l.take (half l.length))] := by
  rw [way, if_neg (by omega), if_neg (by omega)]
theorem way_wl (l : Dl) (i : Nat) (h : Wl l) : Wl (way l i) := by
  induction l, i using way.induct with
  | case1 l i h0 => rw [way_one l i h0]; intro d hd; cases hd
  | case2 l i h0 h1 ih =>
    rw [way_left l i (by omega) h1]
    intro d hd
    rcases List.mem_append.1 hd with hd | hd
    · exact ih (h.take _) d hd
    · rw [List.mem_singleton.1 hd]; exact root_w4 _ (h.drop _)
  | case3 l i h0 h1 ih =>
    rw [way_right l i (by omega) (by omega)]
    intro d hd
    rcases List.mem_append.1 hd with hd | hd
    · exact ih (h.drop _) d hd
    · rw [List.mem_singleton.1 hd]; exact root_w4 _ (h.take _)
theorem way_len (l : Dl) (i : Nat) : (way l i).length ≤ l.length - 1 := by
  induction l, i using way.induct with
  | case1 l i h0 => rw [way_one l i h0]; simp
  | case2 l i h0 h1 ih =>
    rw [way_left l i (by omega) h1, List.length_append, List.length_singleton]
    have := half_lt (n := l.length) (by omega)
    rw [List.length_take] at ih
    omega
  | case3 l i h0 h1 ih =>
    rw [way_right l i (by omega) (by omega), List.length_append, List.length_singleton]
    have := half_lt (n := l.length) (by omega)
    have := half_pos l.length
    rw [List.length_drop] at ih
    omega
/-- The root that a proof tells. -/
def up (n i : Nat) (leaf : List Nat) (p : Dl) : List Nat × Bool :=
  if n ≤ 1 then (leaf, p.length == 0)
  else if p.length = 0 then (leaf, false)
  else if i < half n then (pairD (up (half n) i leaf p.dropLast).1 (p.getLastD []), (up (half n) i leaf p.dropLast).2)
  else (pairD (p.getLastD []) (up (n - half n) (i - half n) leaf p.dropLast).1, (up (n - half n) (i - half n) leaf p.dropLast).2)
termination_by n
decreasing_by
  all_goals (have := half_lt (n := n) (by omega); have := half_pos n; omega)
theorem up_one (n i : Nat) (leaf : List Nat) (p : Dl) (h : n ≤ 1) : up n i leaf p = (leaf, p.length == 0) := by rw [up, if_pos h]
theorem up_none (n i : Nat) (leaf : List Nat) (h : 1 < n) : up n i leaf [] = (leaf, false) := by rw [up, if_neg (by omega)]; rfl
theorem up_left (n i : Nat) (leaf : List Nat) (p : Dl) (h : 1 < n) (hp : p.length ≠ 0) (hi : i < half n) : up n i leaf p = (pairD (up (half n) i leaf p.dropLast).1 (p.getLastD []), (up (half n) i leaf p.dropLast).2) := by
  rw [up, if_neg (by omega), if_neg hp, if_pos hi]
theorem up_right (n i : Nat) (leaf : List Nat) (p : Dl) (h : 1 < n) (hp : p.length ≠ 0) (hi : half n ≤ i) : up n i leaf p = (pairD (p.getLastD []) (up (n - half n) (i - half n) leaf p.dropLast).1, (up (n - half n) (i - half n) leaf p.dropLast).2) := by
  rw [up, if_neg (by omega), if_neg hp, if_neg (by omega)]
theorem getLastD_snoc (p : Dl) (x : List Nat) : (p ++ [x]).getLastD [] = x := by simp [List.getLastD_eq_getLast?]
/-- A place's proof tells the root. -/
theorem up_way (l : Dl) (i : Nat) (hi : i < l.length) : up l.length i (l.getD i []) (way l i) = (root l, true) := by
  induction l, i using way.induct with
  | case1 l i h0 =>
    match l, h0, hi with
    | [d], _, hi =>
      obtain rfl : i = 0 := by simp at hi; exact hi
      rw [way_one _ _ (by simp), root_one, up_one _ _ _ _ (by simp)]; rfl
  | case2 l i h0 h1 ih =>
    have hk := half_lt (n := l.length) (by omega)
    have hl : (l.take (half l.length)).length = half l.length := by rw [List.length_take]; omega
    rw [hl] at ih
    have ih := ih h1
    have e : (l.take (half l.length)).getD i [] = l.getD i [] := by
      simp [List.getD_eq_getElem?_getD, h1]
    rw [e] at ih
    rw [way_left l i (by omega) h1, up_left _ _ _ _ (by omega) (by simp) h1, List.dropLast_concat, getLastD_snoc, ih, root_two l (by omega)]
  | case3 l i h0 h1 ih =>
    have hk := half_lt (n := l.length) (by omega)
    have hl : (l.drop (half l.length)).length = l.length - half l.length := by rw [List.length_drop]
    rw [hl] at ih
    have ih := ih (by omega)
    have e : (l.drop (half l.length)).getD (i - half l.length) [] = l.getD i [] := by
      simp [List.getD_eq_getElem?_getD, List.getElem?_drop, show half l.length + (i - half l.length) = i by omega]
    rw [e] at ih
    rw [way_right l i (by omega) (by omega), up_right _ _ _ _ (by omega) (by simp) (by omega), List.dropLast_concat, getLastD_snoc, ih, root_two l (by omega)]
/-- The proof that a list goes on its first m. -/
def goes (l : Dl) (m : Nat) (whole : Bool) : Dl :=
  if l.length ≤ m then (if whole then [] else [root l])
  else if l.length ≤ 1 then []
  else if m ≤ half l.length then goes (l.take (half l.length)) m whole ++ [root (l.drop (half l.length))]
  else goes (l.drop (half l.length)) (m - half l.length) false ++ [root (l.take (half l.length))]
termination_by l.length
decreasing_by
  · rw [List.length_take]; have := half_lt (n := l.length) (by omega); omega
  · rw [List.length_drop]; have := half_pos l.length; omega
theorem goes_eq (l : Dl) (m : Nat) (whole : Bool) (h : l.length ≤ m) : goes l m whole = if whole then [] else [root l] := by rw [goes, if_pos h]
theorem goes_left (l : Dl) (m : Nat) (whole : Bool) (h : m < l.length) (h0 : 0 < m) (hm : m ≤ half l.length) : goes l m whole = goes (l.take (half l.length)) m whole ++ [root (l.drop (half l.length))] := by
  rw [goes, if_neg (by omega), if_neg (by omega), if_pos hm]
theorem goes_right (l : Dl) (m : Nat) (whole : Bool) (h : m < l.length) (h0 : 0 < m) (hm : half l.length < m) : goes l m whole = goes (l.drop (half l.length)) (m - half l.length) false ++ [root (l.take (half l.length))] := by
  rw [goes, if_neg (by omega), if_neg (by omega), if_neg (by omega)]
theorem goes_len (l : Dl) (m : Nat) (whole : Bool) (h0 : 0 < m) (h1 : 0 < l.length) : (goes l m whole).length ≤ l.length := by
  obtain ⟨n, hn⟩ : ∃ n, n = l.length := ⟨_, rfl⟩
  induction n using Nat.strongRecOn generalizing l m whole with
  | ind n ih =>
    rcases Nat.lt_or_ge m l.length with h | h
    · have hk := half_lt (n := l.length) (by omega)
      have hp := half_pos l.length
      rcases Nat.lt_or_ge (half l.length) m with hm | hm
      · have hl : (l.drop (half l.length)).length = l.length - half l.length := List.length_drop
        rw [goes_right l m whole h h0 hm, List.length_append, List.length_singleton]
        have := ih _ (by rw [hl]; omega) (l.drop (half l.length)) (m - half l.length) false (by omega) (by rw [hl]; omega) rfl
        rw [hl] at this
        omega
      · have hl : (l.take (half l.length)).length = half l.length := by rw [List.length_take]; omega
        rw [goes_left l m whole h h0 hm, List.length_append, List.length_singleton]
        have := ih _ (by rw [hl]; omega) (l.take (half l.length)) m whole h0 (by rw [hl]; omega) rfl
        rw [hl] at this
        omega
    · rw [goes_eq l m whole h]
      cases whole <;> simp <;> omega
theorem goes_wl (l : Dl) (m : Nat) (whole : Bool) (h0 : 0 < m) (hw : Wl l) : Wl (goes l m whole) := by
  obtain ⟨n, hn⟩ : ∃ n, n = l.length := ⟨_, rfl⟩
  induction n using Nat.strongRecOn generalizing l m whole with
  | ind n ih =>
    rcases Nat.lt_or_ge m l.length with h | h
    · have hk := half_lt (n := l.length) (by omega)
      have hp := half_pos l.length
      rcases Nat.lt_or_ge (half l.length) m with hm | hm
      · have hl : (l.drop (half l.length)).length = l.length - half l.length := List.length_drop
        rw [goes_right l m whole h h0 hm]
        have := ih _ (by rw [hl]; omega) (l.drop (half l.length)) (m - half l.length) false (by omega) (hw.drop _) rfl
        intro d hd
        rcases List.mem_append.1 hd with hd | hd
        · exact this d hd
        · rw [List.mem_singleton.1 hd]; exact root_w4 _ (hw.take _)
      · have hl : (l.take (half l.length)).length = half l.length := by rw [List.length_take]; omega
        rw [goes_left l m whole h h0 hm]
        have := ih _ (by rw [hl]; omega) (l.take (half l.length)) m whole h0 (hw.take _) rfl
        intro d hd
        rcases List.mem_append.1 hd with hd | hd
        · exact this d hd
        · rw [List.mem_singleton.1 hd]; exact root_w4 _ (hw.drop _)
    · rw [goes_eq l m whole h]
      cases whole
      · intro d hd; rw [List.mem_singleton.1 hd]; exact root_w4 _ hw
      · intro d hd; cases hd
/-- Both roots that a proof tells. -/
def onP (old : List Nat) (m n : Nat) (whole : Bool) (p : Dl) : List Nat × List Nat × Bool :=
  if n ≤ m then (if whole then (old, old, p.length == 0) else if p.length = 1 then (p.headD [], p.headD [], true) else (old, old, false))
  else if n ≤ 1 then (old, old, false)
  else if p.length = 0 then (old, old, false)
  else if m ≤ half n then ((onP old m (half n) whole p.dropLast).1, pairD (onP old m (half n) whole p.dropLast).2.1 (p.getLastD []), (onP old m (half n) whole p.dropLast).2.2)
  else (pairD (p.getLastD []) (onP old (m - half n) (n - half n) false p.dropLast).1, pairD (p.getLastD []) (onP old (m - half n) (n - half n) false p.dropLast).2.1, (onP old (m - half n) (n - half n) false p.dropLast).2.2)
termination_by n
decreasing_by
  all_goals (have := half_lt (n := n) (by omega); have := half_pos n; omega)
theorem on_whole (old : List Nat) (m n : Nat) (p : Dl) (h : n ≤ m) : onP old m n true p = (old, old, p.length == 0) := by rw [onP, if_pos h]; rfl
theorem on_cut (old : List Nat) (m n : Nat) (p : Dl) (h : n ≤ m) : onP old m n false p = if p.length = 1 then (p.headD [], p.headD [], true) else (old, old, false) := by rw [onP, if_pos h]; rfl
theorem on_none (old : List Nat) (m n : Nat) (whole : Bool) (h : m < n) (h1 : 0 < m) : onP old m n whole [] = (old, old, false) := by rw [onP, if_neg (by omega), if_neg (by omega)]; rfl
theorem on_left (old : List Nat) (m n : Nat) (whole : Bool) (p : Dl) (h : m < n) (h1 : 0 < m) (hp : p.length ≠ 0) (hm : m ≤ half n) : onP old m n whole p = ((onP old m (half n) whole p.dropLast).1, pairD (onP old m (half n) whole p.dropLast).2.1 (p.getLastD []), (onP old m (half n) whole p.dropLast).2.2) := by
  rw [onP, if_neg (by omega), if_neg (by omega), if_neg hp, if_pos hm]
theorem on_right (old : List Nat) (m n : Nat) (whole : Bool) (p : Dl) (h : m < n) (h1 : 0 < m) (hp : p.length ≠ 0) (hm : half n < m) : onP old m n whole p = (pairD (p.getLastD []) (onP old (m - half n) (n - half n) false p.dropLast).1, pairD (p.getLastD []) (onP old (m - half n) (n - half n) false p.dropLast).2.1, (onP old (m - half n) (n - half n) false p.dropLast).2.2) := by
  rw [onP, if_neg (by omega), if_neg (by omega), if_neg hp, if_neg (by omega)]
/-- That a list goes on its first ones is shown. -/
theorem on_goes (old : List Nat) (l : Dl) (m : Nat) (whole : Bool) (h0 : 0 < m) (hm : m ≤ l.length) (ho : whole = true → old = root (l.take m)) :
    onP old m l.length whole (goes l m whole) = (root (l.take m), root l, true) := by
  obtain ⟨n, hn⟩ : ∃ n, n = l.length := ⟨_, rfl⟩
  induction n using Nat.strongRecOn generalizing l m whole with
  | ind n ih =>
    rcases Nat.lt_or_ge m l.length with h | h
    · have hk := half_lt (n := l.length) (by omega)
      have hp := half_pos l.length
      rcases Nat.lt_or_ge (half l.length) m with hm2 | hm2
      · have hl : (l.drop (half l.length)).length = l.length - half l.length := List.length_drop
        have hi := ih _ (by rw [hl]; omega) (l.drop (half l.length)) (m - half l.length) false (by omega) (by rw [hl]; omega) (fun h => by cases h) rfl
        rw [hl] at hi
        rw [goes_right l m whole h h0 hm2, on_right _ _ _ _ _ h h0 (by simp) hm2, List.dropLast_concat, getLastD_snoc, hi]
        have hlt : (l.take m).length = m := by rw [List.length_take]; omega
        have e1 : root (l.take m) = pairD (root (l.take (half l.length))) (root ((l.drop (half l.length)).take (m - half l.length))) := by
          rw [root_two (l.take m) (by omega), hlt, half_eq hm2 (by omega) (by omega), List.take_take, List.drop_take, Nat.min_eq_left (by omega)]
        rw [e1, root_two l (by omega)]
      · have hl : (l.take (half l.length)).length = half l.length := by rw [List.length_take]; omega
        have e2 : (l.take (half l.length)).take m = l.take m := by rw [List.take_take, Nat.min_eq_left hm2]
        have hi := ih _ (by rw [hl]; omega) (l.take (half l.length)) m whole h0 (by rw [hl]; omega) (fun h => by rw [e2]; exact ho h) rfl
        rw [hl, e2] at hi
        rw [goes_left l m whole h h0 hm2, on_left _ _ _ _ _ h h0 (by simp) hm2, List.dropLast_concat, getLastD_snoc, hi, root_two l (by omega)]
    · have e : l.take m = l := List.take_of_length_le h
      rw [goes_eq l m whole h, e]
      cases whole
      · rw [on_cut _ _ _ _ h]; rfl
      · rw [on_whole _ _ _ _ h, ho rfl, e]; rfl
/-- Of unlike lists of one length with one root two unlike pairs are found. -/
def clash (a b : Dl) : Bool :=
  if a.length ≠ b.length ∨ a = b ∨ root a ≠ root b then false
  else if a.length ≤ 1 then false
  else if (root (a.take (half a.length)), root (a.drop (half a.length))) ≠ (root (b.take (half a.length)), root (b.drop (half a.length))) then true
  else if a.take (half a.length) ≠ b.take (half a.length) then clash (a.take (half a.length)) (b.take (half a.length))
  else clash (a.drop (half a.length)) (b.drop (half a.length))
termination_by a.length
decreasing_by
  · rw [List.length_take]; have := half_lt (n := a.length) (by omega); omega
  · rw [List.length_drop]; have := half_pos a.length; omega
theorem clash_true (a b : Dl) (hl : a.length = b.length) (hne : a ≠ b) (hr : root a = root b) : clash a b = true := by
  obtain ⟨n, hn⟩ : ∃ n, n = a.length := ⟨_, rfl⟩
  induction n using Nat.strongRecOn generalizing a b with
  | ind n ih =>
    have h1 : 1 < a.length := by
      match a, b, hl with
      | [], [], _ => exact absurd rfl hne
      | [x], [y], _ => rw [root_one, root_one] at hr; subst hr; exact absurd rfl hne
      | _ :: _ :: _, _, _ => simp
    have hk := half_lt h1
    have hp := half_pos a.length
    rw [clash, if_neg (by simp [hl, hne, hr]), if_neg (by omega)]
    split
    · rfl
    · rename_i hx
      have hx : root (a.take (half a.length)) = root (b.take (half a.length)) ∧ root (a.drop (half a.length)) = root (b.drop (half a.length)) := by simpa using hx
      split
      · rename_i hy
        have lt : (a.take (half a.length)).length = half a.length := by rw [List.length_take]; omega
        exact ih _ (by rw [lt]; omega) _ _ (by rw [List.length_take, List.length_take]; omega) hy hx.1 rfl
      · rename_i hy
        have hy : a.take (half a.length) = b.take (half a.length) := by simpa using hy
        have ld : (a.drop (half a.length)).length = a.length - half a.length := List.length_drop
        refine ih _ (by rw [ld]; omega) _ _ (by rw [List.length_drop, List.length_drop]; omega) (fun e => hne ?_) hx.2 rfl
        rw [← List.take_append_drop (half a.length) a, ← List.take_append_drop (half a.length) b, hy, e]
end Go.Proofs.Sc
