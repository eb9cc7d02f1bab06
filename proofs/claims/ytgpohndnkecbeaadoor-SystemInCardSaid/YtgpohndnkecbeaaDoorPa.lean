/- Plain functions: rotation of words, the mixing of a state, the digest's steps, on natural numbers; no program in sight. -/
namespace Go.Proofs.Sc

def rotl (x n : Nat) : Nat := (x * 2 ^ n % 4294967296) ||| (x / 2 ^ (32 - n))
theorem rotl_lt (x n : Nat) (hx : x < 4294967296) : rotl x n < 4294967296 := by
  unfold rotl
  refine Nat.or_lt_two_pow (n := 32) (Nat.mod_lt _ (by decide)) ?_
  exact Nat.lt_of_le_of_lt (Nat.div_le_self _ _) hx

/-- The i-th word. -/
def gw (S : List Nat) (i : Nat) : Nat := S.getD i 0
theorem gw_set_self (S : List Nat) (i v : Nat) (h : i < S.length) : gw (S.set i v) i = v := by simp [gw, List.getD_eq_getElem?_getD, h]
theorem gw_set_ne (S : List Nat) (i j v : Nat) (h : i ≠ j) : gw (S.set i v) j = gw S j := by simp [gw, List.getD_eq_getElem?_getD, h]
def turnsL : List Nat := [7, 9, 13, 18]
/-- One pair of words, mixed. -/
def qs (S : List Nat) (i : Nat) : List Nat :=
  (S.set i ((gw S i + gw S (i + 4)) % 4294967296)).set (i + 4) (rotl (gw S (i + 4) ^^^ ((gw S i + gw S (i + 4)) % 4294967296)) (gw turnsL i))
def qn : Nat → List Nat → List Nat
  | 0, S => S
  | k + 1, S => qs (qn k S) k
def perm (S : List Nat) : List Nat := [gw S 3, gw S 4, gw S 5, gw S 6, gw S 7, gw S 0, gw S 1, gw S 2]
/-- The permuted words as far as the j-th. -/
def pm (S : List Nat) (j : Nat) : List Nat := (perm S).take j ++ S.drop j
/-- One round of the mixing, over eight words. -/
def rnd (r : Nat) (S : List Nat) : List Nat := perm (qn 4 (S.set 0 ((gw S 0 + 2654435769 * (r + 1)) % 4294967296)))
def mixn : Nat → List Nat → List Nat
  | 0, S => S
  | k + 1, S => rnd k (mixn k S)
def mix (S : List Nat) : List Nat := mixn 8 S

/-- Eight words. -/
def W8 (S : List Nat) : Prop := S.length = 8 ∧ ∀ x ∈ S, x < 4294967296
theorem W8.form {S : List Nat} (h : W8 S) : ∃ x0 x1 x2 x3 x4 x5 x6 x7, S = [x0, x1, x2, x3, x4, x5, x6, x7] ∧ x0 < 4294967296 ∧ x1 < 4294967296 ∧ x2 < 4294967296 ∧ x3 < 4294967296 ∧ x4 < 4294967296 ∧ x5 < 4294967296 ∧ x6 < 4294967296 ∧ x7 < 4294967296 := by
  obtain ⟨hl, hx⟩ := h
  match S, hl with
  | [x0, x1, x2, x3, x4, x5, x6, x7], _ => exact ⟨x0, x1, x2, x3, x4, x5, x6, x7, rfl, hx _ (by simp), hx _ (by simp), hx _ (by simp), hx _ (by simp), hx _ (by simp), hx _ (by simp), hx _ (by simp), hx _ (by simp)⟩
theorem W8.lt {S : List Nat} (h : W8 S) (i : Nat) : gw S i < 4294967296 := by
  unfold gw
  rw [List.getD_eq_getElem?_getD]
  rcases Nat.lt_or_ge i S.length with hi | hi
  · rw [List.getElem?_eq_getElem hi]; exact h.2 _ (List.getElem_mem hi)
  · rw [List.getElem?_eq_none hi]; decide
theorem W8.set {S : List Nat} (h : W8 S) (i v : Nat) (hv : v < 4294967296) : W8 (S.set i v) :=
  ⟨by rw [List.length_set]; exact h.1, fun x hx => (List.mem_or_eq_of_mem_set hx).elim (h.2 x) (fun e => e ▸ hv)⟩
theorem xor_lt {a b : Nat} (ha : a < 4294967296) (hb : b < 4294967296) : a ^^^ b < 4294967296 := Nat.xor_lt_two_pow (n := 32) ha hb
theorem m32_lt (a : Nat) : a % 4294967296 < 4294967296 := Nat.mod_lt _ (by decide)
theorem qs_w8 {S : List Nat} (h : W8 S) (i : Nat) : W8 (qs S i) := (h.set i _ (m32_lt _)).set _ _ (rotl_lt _ _ (xor_lt (h.lt _) (m32_lt _)))
theorem qn_w8 {S : List Nat} (h : W8 S) (k : Nat) : W8 (qn k S) := by
  induction k with
  | zero => exact h
  | succ k ih => exact qs_w8 ih k
theorem perm_w8 {S : List Nat} (h : W8 S) : W8 (perm S) := by
  refine ⟨rfl, fun x hx => ?_⟩
  simp only [perm, List.mem_cons, List.not_mem_nil, or_false] at hx
  rcases hx with rfl | rfl | rfl | rfl | rfl | rfl | rfl | rfl <;> exact h.lt _
theorem rnd_w8 (r : Nat) {S : List Nat} (h : W8 S) : W8 (rnd r S) := perm_w8 (qn_w8 (h.set 0 _ (m32_lt _)) 4)
theorem mixn_w8 (k : Nat) {S : List Nat} (h : W8 S) : W8 (mixn k S) := by
  induction k with
  | zero => exact h
  | succ k ih => exact rnd_w8 k ih
theorem mix_w8 {S : List Nat} (h : W8 S) : W8 (mix S) := mixn_w8 8 h
theorem pm_zero (S : List Nat) : pm S 0 = S := by simp [pm]
theorem pm_all {S : List Nat} (h : S.length = 8) : pm S 8 = perm S := by simp [pm, perm, h]
theorem gw_perm (S : List Nat) (j : Nat) (hj : j < 8) : gw (perm S) j = gw S ((j + 3) % 8) := by
  match j, hj with
  | 0, _ => rfl
  | 1, _ => rfl
  | 2, _ => rfl
  | 3, _ => rfl
  | 4, _ => rfl
  | 5, _ => rfl
  | 6, _ => rfl
  | 7, _ => rfl
theorem pm_succ {S : List Nat} (h : S.length = 8) (j : Nat) (hj : j < 8) : (pm S j).set j (gw S ((j + 3) % 8)) = pm S (j + 1) := by
  rw [← gw_perm S j hj]
  apply List.ext_getElem
  · simp [pm, perm, h]; omega
  · intro i h1 h2
    have hl : (perm S).length = 8 := rfl
    rw [List.getElem_set]
    by_cases e : j = i
    · subst e
      have h5 : j < min (j + 1) 8 := by omega
      simp [pm, gw, hl, List.getD_eq_getElem?_getD, hj, h5]
    · rw [if_neg e]
      simp only [pm, List.getElem_append, List.length_take, hl, List.getElem_take, List.getElem_drop]
      by_cases h3 : i < j
      · have h4 : i < min j 8 := by omega
        have h5 : i < min (j + 1) 8 := by omega
        simp [h4, h5]
      · have h4 : ¬ i < min j 8 := by omega
        have h5 : ¬ i < min (j + 1) 8 := by omega
        simp only [h4, h5, dite_false]
        congr 1
        omega
theorem pm_len {S : List Nat} (h : S.length = 8) (j : Nat) (hj : j ≤ 8) : (pm S j).length = 8 := by simp [pm, perm, h]; omega
end Go.Proofs.Sc
