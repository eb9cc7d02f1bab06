/- Plain functions: records one behind the other, and what is read of bytes. -/
import Derived.Test.YtgpohndnkecbeaaDoorPb
namespace Go.Proofs.Sc

/-- A row of bytes' digest, as bytes. -/
def sumB (s : List UInt8) : List UInt8 := wbytes (dig s)
theorem sumB_len (s : List UInt8) : (sumB s).length = 16 := by rw [sumB, wbytes_len, (dig_w4 s).1]
def framed (r : List UInt8) : List UInt8 := le4 (r.length % 4294967296) ++ r
/-- A record's bytes. -/
def recB (r : List UInt8) : List UInt8 := le4 (r.length % 4294967296) ++ sumB (framed r) ++ r
def putB (l : List (List UInt8)) : List UInt8 := l.flatMap recB
/-- The length that bytes begin with. -/
def len4 : List UInt8 → Nat
  | a :: b :: c :: d :: _ => rd4 a b c d
  | _ => 0
/-- The first whole good record. -/
def firstP (s : List UInt8) : Option (List UInt8) :=
  if s.length < 20 then none
  else if s.length - 20 < len4 s then none
  else if (s.drop 4).take 16 = sumB (s.take 4 ++ (s.drop 20).take (len4 s)) then some ((s.drop 20).take (len4 s)) else none
/-- The records that stand ahead, at most so many. -/
def reads : Nat → List UInt8 → List (List UInt8)
  | 0, _ => []
  | k + 1, s =>
    match firstP s with
    | none => []
    | some r => r :: reads k (s.drop (20 + r.length))
/-- How many bytes they are. -/
def total (l : List (List UInt8)) : Nat := (l.map fun r => 20 + r.length).sum
theorem recB_len (r : List UInt8) : (recB r).length = 20 + r.length := by
  simp only [recB, List.length_append, le4_len, sumB_len]
theorem putB_len (l : List (List UInt8)) : (putB l).length = total l := by
  induction l with
  | nil => rfl
  | cons r l ih => simp only [putB, total, List.flatMap_cons, List.length_append, recB_len, List.map_cons, List.sum_cons] at *; omega
theorem putB_app (a b : List (List UInt8)) : putB (a ++ b) = putB a ++ putB b := by simp [putB]
theorem total_app (a b : List (List UInt8)) : total (a ++ b) = total a + total b := by simp [total]
theorem total_cons (r : List UInt8) (l : List (List UInt8)) : total (r :: l) = 20 + r.length + total l := by simp [total]
theorem len4_le4 (x : Nat) (h : x < 4294967296) (t : List UInt8) : len4 (le4 x ++ t) = x := by
  simp only [le4, List.cons_append, List.nil_append, len4, rd4_le4 x h]
theorem le4_len4 (s : List UInt8) (h : 4 ≤ s.length) : le4 (len4 s) = s.take 4 := by
  match s, h with
  | a :: b :: c :: d :: l, _ => simp only [len4, le4_rd4]; rfl
theorem len4_lt (s : List UInt8) : len4 s < 4294967296 := by
  unfold len4
  split
  · exact rd4_lt _ _ _ _
  · decide
theorem len4_take (s t : List UInt8) (h : 4 ≤ s.length) : len4 (s ++ t) = len4 s := by
  match s, h with
  | a :: b :: c :: d :: l, _ => rfl

/-- A whole record is read. -/
theorem firstP_rec (r t : List UInt8) (h : r.length < 4294967296) : firstP (recB r ++ t) = some r := by
  have hl : (recB r ++ t).length = 20 + r.length + t.length := by rw [List.length_append, recB_len]
  have e0 : recB r ++ t = le4 r.length ++ (sumB (framed r) ++ r ++ t) := by rw [recB, Nat.mod_eq_of_lt h]; simp
  have e4 : len4 (recB r ++ t) = r.length := by rw [e0, len4_le4 _ h]
  have d4 : (recB r ++ t).drop 4 = sumB (framed r) ++ (r ++ t) := by
    rw [e0, List.drop_left' (le4_len _)]; simp
  have d20 : (recB r ++ t).drop 20 = r ++ t := by
    rw [show 20 = 4 + 16 from rfl, ← List.drop_drop, d4, List.drop_left' (sumB_len _)]
  have t4 : (recB r ++ t).take 4 = le4 r.length := by rw [e0, List.take_left' (le4_len _)]
  unfold firstP
  rw [if_neg (by omega), e4, if_neg (by omega), d4, List.take_left' (sumB_len _), d20, List.take_left' rfl, t4]
  rw [if_pos]
  rw [framed, Nat.mod_eq_of_lt h]
/-- What is read stands ahead, whole. -/
theorem firstP_some {s r : List UInt8} (h : firstP s = some r) : s = recB r ++ s.drop (20 + r.length) ∧ r.length < 4294967296 ∧ 20 + r.length ≤ s.length := by
  unfold firstP at h
  split at h
  · cases h
  · rename_i h1
    split at h
    · cases h
    · rename_i h2
      split at h
      · rename_i h3
        injection h with h
        have hrl : r.length = len4 s := by rw [← h, List.length_take, List.length_drop]; omega
        have hlt : r.length < 4294967296 := by rw [hrl]; exact len4_lt s
        refine ⟨?_, hlt, by omega⟩
        have t4 : s.take 4 = le4 r.length := by rw [hrl, le4_len4 s (by omega)]
        rw [h, t4] at h3
        have e : recB r = s.take (20 + r.length) := by
          have a1 : s.take (20 + r.length) = s.take 4 ++ ((s.drop 4).take 16 ++ (s.drop 20).take r.length) := by
            rw [show 20 + r.length = 4 + (16 + r.length) from by omega, List.take_add, List.take_add, List.drop_drop]
          rw [a1, h3, t4, hrl, h, recB, framed, Nat.mod_eq_of_lt hlt, hrl]
          simp
        rw [e, List.take_append_drop]
      · cases h
/-- A record of which a part lacks is none. -/
theorem firstP_part (r : List UInt8) (h : r.length < 4294967296) (n : Nat) (hn : n < 20 + r.length) : firstP ((recB r).take n) = none := by
  unfold firstP
  have hl : ((recB r).take n).length = n := by rw [List.length_take, recB_len]; omega
  rw [hl]
  by_cases h20 : n < 20
  · rw [if_pos h20]
  · rw [if_neg h20]
    have e4 : len4 ((recB r).take n) = r.length := by
      have := len4_take ((recB r).take n) ((recB r).drop n) (by omega)
      rw [List.take_append_drop] at this
      rw [← this, recB, Nat.mod_eq_of_lt h, List.append_assoc, len4_le4 _ h]
    rw [e4, if_pos (by omega)]
theorem reads_rec (k : Nat) (r t : List UInt8) (h : r.length < 4294967296) : reads (k + 1) (recB r ++ t) = r :: reads k t := by
  rw [reads, firstP_rec r t h]
  simp only
  rw [List.drop_left' (recB_len r)]
theorem reads_put (l : List (List UInt8)) (t : List UInt8) (h : ∀ r ∈ l, r.length < 4294967296) (k : Nat) : reads (l.length + k) (putB l ++ t) = l ++ reads k t := by
  induction l with
  | nil => simp [putB]
  | cons r l ih =>
    have e : putB (r :: l) ++ t = recB r ++ (putB l ++ t) := by simp [putB]
    rw [e, List.length_cons, Nat.add_right_comm, reads_rec _ _ _ (h r (by simp)), ih (fun x hx => h x (by simp [hx]))]
    rfl
theorem reads_len (k : Nat) (s : List UInt8) : (reads k s).length ≤ k := by
  induction k generalizing s with
  | zero => simp [reads]
  | succ k ih =>
    rw [reads]
    split
    · simp
    · rw [List.length_cons]; exact Nat.succ_le_succ (ih _)
theorem reads_take (k j : Nat) (s : List UInt8) : reads k s = (reads (k + j) s).take k := by
  induction k generalizing s with
  | zero => simp [reads]
  | succ k ih =>
    rw [Nat.add_right_comm, reads, reads]
    split
    · rfl
    · rw [List.take_succ_cons, ← ih]
theorem reads_prefix (k : Nat) (s : List UInt8) : s = putB (reads k s) ++ s.drop (total (reads k s)) := by
  induction k generalizing s with
  | zero => simp [reads, putB, total]
  | succ k ih =>
    rw [reads]
    split
    · simp [putB, total]
    · rename_i r hr
      obtain ⟨h1, _, _⟩ := firstP_some hr
      have := ih (s.drop (20 + r.length))
      rw [total_cons]
      have e : putB (r :: reads k (s.drop (20 + r.length))) = recB r ++ putB (reads k (s.drop (20 + r.length))) := by simp [putB]
      rw [List.drop_drop] at this
      rw [e, List.append_assoc, ← this, ← h1]
theorem reads_small (k : Nat) (s : List UInt8) : ∀ r ∈ reads k s, r.length < 4294967296 := by
  induction k generalizing s with
  | zero => intro r h; cases h
  | succ k ih =>
    rw [reads]
    split
    · intro r h; cases h
    · rename_i q hq
      intro r h
      rcases List.mem_cons.1 h with rfl | h
      · exact (firstP_some hq).2.1
      · exact ih _ r h
theorem reads_total (k : Nat) (s : List UInt8) : total (reads k s) ≤ s.length := by
  have := congrArg List.length (reads_prefix k s)
  rw [List.length_append, putB_len] at this
  omega
/-- Behind what is read no record begins, unless there were too many. -/
theorem reads_rest (k : Nat) (s : List UInt8) (h : (reads k s).length < k) : firstP (s.drop (total (reads k s))) = none := by
  induction k generalizing s with
  | zero => omega
  | succ k ih =>
    cases hf : firstP s with
    | none => simp only [reads, hf, total, List.map_nil, List.sum_nil, List.drop_zero]
    | some r =>
      simp only [reads, hf, List.length_cons] at h ⊢
      have := ih (s.drop (20 + r.length)) (by omega)
      rw [List.drop_drop] at this
      rw [total_cons]
      exact this
theorem total_ge (l : List (List UInt8)) : 20 * l.length ≤ total l := by
  induction l with
  | nil => simp
  | cons r l ih => rw [total_cons, List.length_cons]; omega
theorem reads_snoc (k : Nat) (s r : List UInt8) (h : (reads k s).length = k) (hr : firstP (s.drop (total (reads k s))) = some r) : reads (k + 1) s = reads k s ++ [r] := by
  induction k generalizing s with
  | zero => simp only [reads, total, List.map_nil, List.sum_nil, List.drop_zero] at hr ⊢; rw [hr]; rfl
  | succ k ih =>
    cases hf : firstP s with
    | none => simp only [reads, hf, List.length_nil] at h; omega
    | some q =>
      have e1 : reads (k + 1) s = q :: reads k (s.drop (20 + q.length)) := by rw [reads, hf]
      rw [e1] at h hr ⊢
      rw [List.length_cons] at h
      rw [total_cons] at hr
      have := ih (s.drop (20 + q.length)) (by omega) (by rw [List.drop_drop]; exact hr)
      rw [reads, hf]
      simp only [this, List.cons_append]
theorem reads_full (k j : Nat) (s : List UInt8) (h : (reads k s).length = k) (hr : firstP (s.drop (total (reads k s))) = none) : reads (k + j) s = reads k s := by
  induction k generalizing s with
  | zero =>
    simp only [reads, total, List.map_nil, List.sum_nil, List.drop_zero] at hr
    rw [Nat.zero_add]
    cases j with
    | zero => rfl
    | succ j => simp only [reads, hr]
  | succ k ih =>
    cases hf : firstP s with
    | none => simp only [reads, hf, List.length_nil] at h; omega
    | some q =>
      have e1 : reads (k + 1) s = q :: reads k (s.drop (20 + q.length)) := by rw [reads, hf]
      rw [e1] at h hr ⊢
      rw [List.length_cons] at h
      rw [total_cons] at hr
      have := ih (s.drop (20 + q.length)) (by omega) (by rw [List.drop_drop]; exact hr)
      rw [Nat.add_right_comm, reads, hf]
      simp only [this]
theorem reads_of_none (k : Nat) {s : List UInt8} (h : firstP s = none) : reads k s = [] := by
  cases k with
  | zero => rfl
  | succ k => rw [reads, h]
end Go.Proofs.Sc
