/- Plain functions: words as bytes, bytes as words, the digest of bytes. -/
import Derived.Test.YtgpohndnkecbeaaDoorPa
namespace Go.Proofs.Sc

/-- A word's four bytes, the lowest first. -/
def le4 (x : Nat) : List UInt8 := [UInt8.ofNat x, UInt8.ofNat (x / 256), UInt8.ofNat (x / 65536), UInt8.ofNat (x / 16777216)]
def wbytes (l : List Nat) : List UInt8 := l.flatMap le4
theorem le4_len (x : Nat) : (le4 x).length = 4 := rfl
theorem wbytes_len (l : List Nat) : (wbytes l).length = 4 * l.length := by
  induction l with
  | nil => rfl
  | cons x l ih => simp only [wbytes, List.flatMap_cons, List.length_append, le4_len, List.length_cons] at *; omega
theorem wbytes_app (l m : List Nat) : wbytes (l ++ m) = wbytes l ++ wbytes m := by simp [wbytes]
theorem wbytes_take (l : List Nat) (k : Nat) (h : k < l.length) : wbytes (l.take (k + 1)) = wbytes (l.take k) ++ le4 (gw l k) := by
  rw [List.take_succ_eq_append_getElem h, wbytes_app]
  simp [wbytes, gw, List.getElem?_eq_getElem h, List.getD_eq_getElem?_getD]

/-- The word of four bytes. -/
def rd4 (a b c d : UInt8) : Nat := a.toNat + 256 * b.toNat + 65536 * c.toNat + 16777216 * d.toNat
theorem rd4_lt (a b c d : UInt8) : rd4 a b c d < 4294967296 := by
  have := a.toNat_lt; have := b.toNat_lt; have := c.toNat_lt; have := d.toNat_lt
  unfold rd4; omega
theorem le4_rd4 (a b c d : UInt8) : le4 (rd4 a b c d) = [a, b, c, d] := by
  have ha := a.toNat_lt; have hb := b.toNat_lt; have hc := c.toNat_lt; have hd := d.toNat_lt
  unfold le4 rd4
  simp only [List.cons.injEq, and_true]
  refine ⟨?_, ?_, ?_, ?_⟩ <;> rw [← UInt8.toNat_inj, UInt8.toNat_ofNat'] <;> omega
theorem rd4_le4 (x : Nat) (h : x < 4294967296) : rd4 (UInt8.ofNat x) (UInt8.ofNat (x / 256)) (UInt8.ofNat (x / 65536)) (UInt8.ofNat (x / 16777216)) = x := by
  unfold rd4
  simp only [UInt8.toNat_ofNat']
  omega
/-- The words of bytes, four each. -/
def bwords : List UInt8 → List Nat
  | a :: b :: c :: d :: l => rd4 a b c d :: bwords l
  | _ => []
theorem bwords_le4 (x : Nat) (h : x < 4294967296) (l : List UInt8) : bwords (le4 x ++ l) = x :: bwords l := by
  simp only [le4, List.cons_append, List.nil_append, bwords, rd4_le4 x h]
theorem bwords_wbytes (l : List Nat) (h : ∀ x ∈ l, x < 4294967296) (m : List UInt8) : bwords (wbytes l ++ m) = l ++ bwords m := by
  induction l with
  | nil => rfl
  | cons x l ih =>
    have : wbytes (x :: l) = le4 x ++ wbytes l := by simp [wbytes]
    rw [this, List.append_assoc, bwords_le4 x (h x (by simp)), ih (fun y hy => h y (by simp [hy]))]
    rfl
theorem bwords_lt (l : List UInt8) : ∀ x ∈ bwords l, x < 4294967296 := by
  induction l using bwords.induct with
  | case1 a b c d l ih =>
    intro x hx
    simp only [bwords, List.mem_cons] at hx
    rcases hx with rfl | hx
    · exact rd4_lt _ _ _ _
    · exact ih x hx
  | case2 l h => intro x hx; rw [bwords] at hx; cases hx; exact h
theorem bwords_len (l : List UInt8) : (bwords l).length = l.length / 4 := by
  induction l using bwords.induct with
  | case1 a b c d l ih => simp only [bwords, List.length_cons, ih]; omega
  | case2 l h =>
    rw [bwords]
    · match l, h with
      | [], _ => simp
      | [_], _ => simp
      | [_, _], _ => simp
      | [_, _, _], _ => simp
      | a :: b :: c :: d :: l, h => exact absurd rfl (h a b c d l)
    · exact h
theorem bwords_app (l m : List UInt8) (h : l.length % 4 = 0) : bwords (l ++ m) = bwords l ++ bwords m := by
  induction l using bwords.induct with
  | case1 a b c d l ih =>
    simp only [List.cons_append, bwords]
    rw [ih (by simp only [List.length_cons] at h; omega)]
  | case2 l hl =>
    match l, hl, h with
    | [], _, _ => rfl
    | [_], _, h => simp at h
    | [_, _], _, h => simp at h
    | [_, _, _], _, h => simp at h
    | a :: b :: c :: d :: l, hl, _ => exact absurd rfl (hl a b c d l)

/-- Bytes, filled up to whole blocks, their number behind them. -/
def padB (s : List UInt8) : List UInt8 := s ++ [128] ++ List.replicate ((24 - (s.length + 1) % 16) % 16) 0
def lenW (s : List UInt8) : List Nat := [s.length % 4294967296, s.length / 4294967296 % 4294967296]
/-- The first k words are joined with a block's. -/
def xk (S b : List Nat) (k : Nat) : List Nat := (List.range 8).map fun i => if i < k then gw S i ^^^ gw b i else gw S i
theorem xk_len (S b : List Nat) (k : Nat) : (xk S b k).length = 8 := by simp [xk]
theorem gw_xk (S b : List Nat) (k i : Nat) (hi : i < 8) : gw (xk S b k) i = if i < k then gw S i ^^^ gw b i else gw S i := by
  simp [xk, gw, List.getD_eq_getElem?_getD, hi]
theorem gw_ext {S T : List Nat} (hl : S.length = T.length) (h : ∀ i, i < S.length → gw S i = gw T i) : S = T := by
  apply List.ext_getElem hl
  intro i h1 h2
  have := h i h1
  simpa [gw, List.getD_eq_getElem?_getD, List.getElem?_eq_getElem h1, List.getElem?_eq_getElem h2] using this
theorem xk_zero {S : List Nat} (b : List Nat) (h : S.length = 8) : xk S b 0 = S :=
  gw_ext (by rw [xk_len, h]) fun i hi => by rw [gw_xk _ _ _ _ (by rw [xk_len] at hi; exact hi)]; simp
theorem xk_succ (S b : List Nat) (k : Nat) (hk : k < 8) : (xk S b k).set k (gw S k ^^^ gw b k) = xk S b (k + 1) := by
  refine gw_ext (by rw [List.length_set, xk_len, xk_len]) fun i hi => ?_
  rw [List.length_set, xk_len] at hi
  rw [gw_xk _ _ _ _ hi]
  by_cases e : k = i
  · subst e
    rw [gw_set_self _ _ _ (by rw [xk_len]; exact hk), if_pos (by omega)]
  · rw [gw_set_ne _ _ _ _ e, gw_xk _ _ _ _ hi]
    by_cases h1 : i < k
    · rw [if_pos h1, if_pos (by omega)]
    · rw [if_neg h1, if_neg (by omega)]
/-- A block is taken in. -/
def blk (S b : List Nat) : List Nat := mix (xk S b 4)
def takeB : List Nat → List Nat → List Nat
  | S, a :: b :: c :: d :: l => takeB (blk S [a, b, c, d]) l
  | S, _ => S
/-- The digest of words, from a first word on. -/
def takeW (first : Nat) (l : List Nat) : List Nat := (takeB [first, 0, 0, 0, 0, 0, 0, 0] l).take 4
/-- The digest of bytes. -/
def dig (s : List UInt8) : List Nat := takeW 1 (bwords (padB s) ++ lenW s)
def pairD (a b : List Nat) : List Nat := takeW 2 (a ++ b)
theorem gw_lt {b : List Nat} (hb : ∀ x ∈ b, x < 4294967296) (i : Nat) : gw b i < 4294967296 := by
  unfold gw
  rw [List.getD_eq_getElem?_getD]
  rcases Nat.lt_or_ge i b.length with hi | hi
  · rw [List.getElem?_eq_getElem hi]; exact hb _ (List.getElem_mem hi)
  · rw [List.getElem?_eq_none hi]; decide
theorem xk_w8 {S b : List Nat} (h : W8 S) (hb : ∀ x ∈ b, x < 4294967296) (k : Nat) : W8 (xk S b k) := by
  refine ⟨xk_len _ _ _, fun x hx => ?_⟩
  obtain ⟨i, _, rfl⟩ := List.mem_map.1 hx
  split
  · exact xor_lt (h.lt _) (gw_lt hb _)
  · exact h.lt _
theorem blk_w8 {S b : List Nat} (h : W8 S) (hb : ∀ x ∈ b, x < 4294967296) : W8 (blk S b) := by
  refine mix_w8 (xk_w8 h hb 4)
theorem takeB_w8 (S l : List Nat) (h : W8 S) (hl : ∀ x ∈ l, x < 4294967296) : W8 (takeB S l) := by
  induction S, l using takeB.induct with
  | case1 S a b c d l ih =>
    rw [takeB]
    refine ih (blk_w8 h fun x hx => hl x ?_) fun x hx => hl x (by simp [hx])
    simp only [List.mem_cons, List.not_mem_nil, or_false] at hx ⊢
    rcases hx with rfl | rfl | rfl | rfl <;> simp
  | case2 S l hn => rw [takeB]; exact h; exact hn
/-- Four words. -/
def W4 (d : List Nat) : Prop := d.length = 4 ∧ ∀ x ∈ d, x < 4294967296
theorem takeW_w4 (f : Nat) (l : List Nat) (hf : f < 4294967296) (hl : ∀ x ∈ l, x < 4294967296) : W4 (takeW f l) := by
  have h := takeB_w8 [f, 0, 0, 0, 0, 0, 0, 0] l ⟨rfl, by simp [hf]⟩ hl
  exact ⟨by rw [takeW, List.length_take, h.1]; rfl, fun x hx => h.2 x (List.mem_of_mem_take hx)⟩
theorem dig_words (s : List UInt8) : ∀ x ∈ bwords (padB s) ++ lenW s, x < 4294967296 := by
  intro x hx
  rcases List.mem_append.1 hx with h | h
  · exact bwords_lt _ x h
  · simp only [lenW, List.mem_cons, List.not_mem_nil, or_false] at h
    rcases h with rfl | rfl <;> exact m32_lt _
theorem dig_w4 (s : List UInt8) : W4 (dig s) := takeW_w4 1 _ (by decide) (dig_words s)
theorem pair_w4 {a b : List Nat} (ha : W4 a) (hb : W4 b) : W4 (pairD a b) := takeW_w4 2 _ (by decide) (fun x hx => (List.mem_append.1 hx).elim (ha.2 x) (hb.2 x))
theorem W4.form {d : List Nat} (h : W4 d) : ∃ a b c e, d = [a, b, c, e] ∧ a < 4294967296 ∧ b < 4294967296 ∧ c < 4294967296 ∧ e < 4294967296 := by
  obtain ⟨hl, hx⟩ := h
  match d, hl with
  | [a, b, c, e], _ => exact ⟨a, b, c, e, rfl, hx _ (by simp), hx _ (by simp), hx _ (by simp), hx _ (by simp)⟩
theorem padB_len (s : List UInt8) : (padB s).length % 16 = 8 := by
  simp only [padB, List.length_append, List.length_cons, List.length_nil, List.length_replicate]
  omega
end Go.Proofs.Sc
