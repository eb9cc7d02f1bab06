/- Plain: what proofs tell is digests; proofs are short; what the laws on stores ask. -/
import Derived.Test.YtgpohndnkecbeaaDoorPh
namespace Go.Proofs.Sc
open Go
theorem Wl.dropLast {p : Dl} (h : Wl p) : Wl p.dropLast := fun d hd => h d ((List.dropLast_sublist p).subset hd)
theorem last_get (p : Dl) : p.getLastD [] = p.getD (p.length - 1) [] := by
  rw [List.getLastD_eq_getLast?, List.getD_eq_getElem?_getD, List.getLast?_eq_getElem?]
theorem Wl.last {p : Dl} (h : Wl p) (hp : p.length ≠ 0) : W4 (p.getLastD []) := by
  rw [last_get, List.getD_eq_getElem?_getD, List.getElem?_eq_getElem (by omega)]
  exact h _ (List.getElem_mem _)
theorem up_w4 (n i : Nat) (leaf : List Nat) (p : Dl) (hl : W4 leaf) (hp : Wl p) : W4 (up n i leaf p).1 := by
  induction n using Nat.strongRecOn generalizing i p with
  | ind n ih =>
    by_cases h1 : n ≤ 1
    · rw [up_one _ _ _ _ h1]; exact hl
    · by_cases h0 : p.length = 0
      · rw [List.eq_nil_of_length_eq_zero h0, up_none _ _ _ (by omega)]; exact hl
      · have hk := half_lt (n := n) (by omega)
        have hk2 := half_pos n
        by_cases hi : i < half n
        · rw [up_left _ _ _ _ (by omega) h0 hi]
          exact pair_w4 (ih _ hk _ _ hp.dropLast) (hp.last h0)
        · rw [up_right _ _ _ _ (by omega) h0 (by omega)]
          exact pair_w4 (hp.last h0) (ih _ (by omega) _ _ hp.dropLast)
theorem on_w4 (old : List Nat) (m n : Nat) (whole : Bool) (p : Dl) (h0 : 0 < m) (hl : W4 old) (hp : Wl p) : W4 (onP old m n whole p).1 ∧ W4 (onP old m n whole p).2.1 := by
  induction n using Nat.strongRecOn generalizing m whole p with
  | ind n ih =>
    rcases Nat.lt_or_ge m n with h | h
    · by_cases hp0 : p.length = 0
      · rw [List.eq_nil_of_length_eq_zero hp0, on_none _ _ _ _ h h0]; exact ⟨hl, hl⟩
      · have hk := half_lt (n := n) (by omega)
        have hk2 := half_pos n
        rcases Nat.lt_or_ge (half n) m with hm | hm
        · rw [on_right _ _ _ _ _ h h0 hp0 hm]
          have hh := ih _ (show n - half n < n by omega) (m - half n) false p.dropLast (by omega) hp.dropLast
          exact ⟨pair_w4 (hp.last hp0) hh.1, pair_w4 (hp.last hp0) hh.2⟩
        · rw [on_left _ _ _ _ _ h h0 hp0 hm]
          have hh := ih _ hk m whole p.dropLast h0 hp.dropLast
          exact ⟨hh.1, pair_w4 hh.2 (hp.last hp0)⟩
    · cases whole with
      | true => rw [on_whole _ _ _ _ h]; exact ⟨hl, hl⟩
      | false =>
        rw [on_cut _ _ _ _ h]
        split
        · rename_i h1
          match p, h1 with
          | [d], _ => exact ⟨hp d (by simp), hp d (by simp)⟩
        · exact ⟨hl, hl⟩
theorem half_le_pow {n d : Nat} (h1 : 1 < n) (h : n ≤ 2 ^ (d + 1)) : half n ≤ 2 ^ d := by
  obtain ⟨i, hi⟩ := half_pow n
  have hk := half_lt h1
  rw [hi] at hk ⊢
  rcases Nat.lt_or_ge d i with hd | hd
  · have : 2 ^ (d + 1) ≤ 2 ^ i := Nat.pow_le_pow_right (by omega) hd
    omega
  · exact Nat.pow_le_pow_right (by omega) hd
/-- A proof that a list goes on is no longer than the tree is high, and one more. -/
theorem goes_short (d : Nat) : ∀ (l : Dl) (m : Nat) (whole : Bool), 0 < m → l.length ≤ 2 ^ d → (goes l m whole).length ≤ d + 1 := by
  induction d with
  | zero =>
    intro l m whole h0 hl
    rw [goes_eq l m whole (by simp at hl; omega)]
    cases whole <;> simp
  | succ d ih =>
    intro l m whole h0 hl
    rcases Nat.lt_or_ge m l.length with h | h
    · have hk := half_lt (n := l.length) (by omega)
      have hp := half_pos l.length
      have ht := half_top l.length
      have hq := half_le_pow (n := l.length) (by omega) hl
      rcases Nat.lt_or_ge (half l.length) m with hm | hm
      · rw [goes_right l m whole h h0 hm, List.length_append, List.length_singleton]
        have := ih (l.drop (half l.length)) (m - half l.length) false (by omega) (by rw [List.length_drop]; omega)
        omega
      · rw [goes_left l m whole h h0 hm, List.length_append, List.length_singleton]
        have := ih (l.take (half l.length)) m whole h0 (by rw [List.length_take]; omega)
        omega
    · rw [goes_eq l m whole h]
      cases whole <;> simp
theorem addsP_snoc (s l : List ByteArray) (a : ByteArray) : addsP s (l ++ [a]) = if (addP (addsP s l) a).2.2 = 0 then (addP (addsP s l) a).1 else addsP s l := by
  rw [addsP, List.foldl_append]; rfl
theorem addsP_len (s l : List ByteArray) : (addsP s l).length ≤ s.length + l.length := by
  obtain ⟨m, e, h⟩ := adds_grow s l
  rw [e, List.length_append]; omega
theorem addP_mem {l : List ByteArray} {a x : ByteArray} (h : x ∈ (addP l a).1) : x ∈ l ∨ x = a := by
  rcases addP_cases l a with ⟨i, _, _, _, e⟩ | ⟨i, _, _, _, e⟩ | ⟨_, _, e⟩ | ⟨_, _, e⟩
  · rw [e] at h; exact .inl h
  · rw [e] at h; cases h
  · rw [e] at h; cases h
  · rw [e] at h
    rcases List.mem_append.1 h with h | h
    · exact .inl h
    · exact .inr (List.mem_singleton.1 h)
theorem addsP_mem {s l : List ByteArray} : ∀ {x}, x ∈ addsP s l → x ∈ s ∨ x ∈ l := by
  induction l generalizing s with
  | nil => intro x h; exact .inl h
  | cons a l ih =>
    intro x h
    rw [addsP, List.foldl_cons] at h
    rcases ih h with h | h
    · split at h
      · rcases addP_mem h with h | h
        · exact .inl h
        · exact .inr (by simp [h])
      · exact .inl h
    · exact .inr (by simp [h])
theorem addP_err {l : List ByteArray} {a : ByteArray} (hl : l.length < 1000) : (addP l a).2.2 = 0 ∨ (addP l a).2.2 = 8 := by
  rcases addP_cases l a with ⟨i, _, _, _, e⟩ | ⟨i, _, _, _, e⟩ | ⟨_, h, e⟩ | ⟨_, _, e⟩
  · rw [e]; exact .inl rfl
  · rw [e]; exact .inr rfl
  · omega
  · rw [e]; exact .inl rfl
/-- Records that stand there twice: what comes of opening is what comes of adding. -/
theorem twice_open {l rs : List ByteArray} (hl : l.length ≤ 20) (_hs : ∀ s ∈ l, s.size ≤ 60) (h : rs = l ++ l) : openP rs = addsP [] l := by
  rw [h, open_twice, adds_join [] l (by simp; omega)]; rfl
/-- Heads alike, stores unlike, with an unlike digest: a clash. -/
theorem same_clash {a b : List ByteArray} (hr : root (dgs a) = root (dgs b)) (hl : a.length = b.length) {i : Nat} (_hi : i < a.length) (hne : (dgs a).getD i [] ≠ (dgs b).getD i []) : clash (dgs a) (dgs b) = true :=
  clash_true _ _ (by rw [dgs_len, dgs_len, hl]) (fun e => hne (by rw [e])) hr
end Go.Proofs.Sc
