/- Contracts: store.Save, store.Open, ref42.Save, ref42.Open. Contract: ref42.Open. -/
import Derived.Test.YtgpohndnkecbeaaDoorTc
import Derived.Test.YtgpohndnkecbeaaDoorJd
import Derived.Test.YtgpohndnkecbeaaDoorRi
namespace Go.Proofs.YtgpohndnkecbeaaDoor
open Go Go.RowKit Go.Proofs.Sc
theorem join_mem (s l : List ByteArray) : ∀ a ∈ l.foldl joinP s, a ∈ s ∨ a ∈ l := by
  induction l generalizing s with
  | nil => intro a h; exact .inl h
  | cons x l ih =>
    intro a h
    rcases ih _ a h with h | h
    · unfold joinP at h
      split at h
      · rcases List.mem_append.1 h with h | h
        · exact .inl h
        · exact .inr (by simp at h; simp [h])
      · exact .inl h
    · exact .inr (by simp [h])
set_option maxRecDepth 100000 in
theorem save_any (A : Option Addr) (n c : Nat) (l : List ByteArray) (w : World) (hT : Turns w) (hn : n ≤ 1000) (hr : Rs w A n 1 (vs l)) (hl : total (l.map fun r => r.data.toList) ≤ 800000) :
    Calls Tryd.prog 35 #[.agg #[.slice A n c]] w fun e w' => e = .returned (.tuple #[.string ⟨(putB (l.map fun r => r.data.toList)).toArray⟩, .int .i64 0]) ∧ Below w.heap.size w w' := by
  go_enter Tryd.func35, Tryd.ntmps35
  have hB0 : Below w.heap.size w (w.alloc (.cells #[.slice A n c] 34)) := (Below.refl _ _).alloc (Nat.le_refl _) _
  go_wp2_with fail
  refine (put_any A n c l _ ?_ hn (hr.below hB0) hl).mono ?_
  · exact hT.belowS hB0
  rintro e w1 ⟨rfl, hb1⟩
  have hB1 := hB0.trans (hb1.mono hB0.size)
  obtain ⟨p, hp⟩ : ∃ p : ByteArray, p = ⟨(putB (l.map fun r => r.data.toList)).toArray⟩ := ⟨_, rfl⟩
  rw [← hp]
  have HP := Lib.hid hp
  clear hp
  go_wp2_with fail
  go_ret2
  exact ⟨by rw [← HP.out]; rfl, hB1⟩
set_option maxRecDepth 100000 in
theorem rsave_any (A : Option Addr) (n c : Nat) (l : List ByteArray) (w : World) (hn : n ≤ 1000) (hr : Rs w A n 1 (vs l)) (hl : total (l.map fun r => r.data.toList) ≤ 800000) :
    Calls Tryd.prog 57 #[.agg #[.slice A n c]] w fun e w' => e = .returned (.tuple #[.string ⟨(putB (l.map fun r => r.data.toList)).toArray⟩, .int .i64 0]) ∧ Below w.heap.size w w' := by
  go_enter Tryd.func57, Tryd.ntmps57
  have hB0 : Below w.heap.size w (w.alloc (.cells #[.slice A n c] 34)) := (Below.refl _ _).alloc (Nat.le_refl _) _
  go_wp2_with fail
  refine (rput_any A n c l _ hn (hr.below hB0) hl).mono ?_
  rintro e w1 ⟨rfl, hb1⟩
  have hB1 := hB0.trans (hb1.mono hB0.size)
  obtain ⟨p, hp⟩ : ∃ p : ByteArray, p = ⟨(putB (l.map fun r => r.data.toList)).toArray⟩ := ⟨_, rfl⟩
  rw [← hp]
  have HP := Lib.hid hp
  clear hp
  go_wp2_with fail
  go_ret2
  exact ⟨by rw [← HP.out]; rfl, hB1⟩
/-- What comes of opening: a store, how many bytes are left over. -/
def OpenIs (b : ByteArray) (w : World) (e : Ending) (w' : World) : Prop :=
  ∃ (rs : List ByteArray) (A : Option Addr) (n c : Nat), lsts rs = reads 1000 b.data.toList ∧ e = .returned (.tuple #[.agg #[.slice A n c], .int .i64 ((b.size - total (lsts rs) : Nat) : Int)]) ∧ n ≤ c ∧ (A = none → c = 0) ∧ Rs w' A n 1 (vs (openP rs)) ∧ Below w.heap.size w w'
def OpenRel (w : World) (B : Option Addr) (m : Nat) (rs : List ByteArray) (sb sr : Nat) (z : Array Value) (i : Value) (wr : World) : Prop :=
  ∃ (k : Nat) (A : Option Addr) (n c : Nat), k ≤ m ∧ i = .int .i64 k ∧ Bx wr sb 34 #[.slice A n c] ∧ Bx wr sr 34 z ∧ n ≤ c ∧ (A = none → c = 0) ∧ (∀ a, A = some a → a.block ≠ sb ∧ a.block ≠ sr) ∧ Rs wr A n 1 (vs ((rs.take k).foldl joinP [])) ∧ Rs wr B m 1 (vs rs) ∧ Below w.heap.size w wr
theorem reads_facts {rs : List ByteArray} {b : ByteArray} (h : lsts rs = reads 1000 b.data.toList) : rs.length ≤ 1000 ∧ total (lsts rs) ≤ b.size ∧ ∀ s ∈ rs, s.size ≤ b.size := by
  have h1 : rs.length ≤ 1000 := by
    have := reads_len 1000 b.data.toList
    rwa [← h, lsts_len] at this
  have h2 : total (lsts rs) ≤ b.size := by
    have := reads_total 1000 b.data.toList
    rwa [← h, size_list] at this
  refine ⟨h1, h2, fun s hs => ?_⟩
  have := total_mem (l := lsts rs) (r := s.data.toList) (List.mem_map.2 ⟨s, hs, rfl⟩)
  rw [size_list] at this
  omega
set_option maxRecDepth 100000 in
set_option maxHeartbeats 1000000 in
theorem open_any (b : ByteArray) (w : World) (hT : Turns w) (hn : b.size ≤ 900000) :
    Calls Tryd.prog 36 #[.string b] w fun e w' => OpenIs b w e w' := by
  go_enter Tryd.func36, Tryd.ntmps36
  have hr0 : Bx (w.alloc (.cells #[.slice none 0 0] 34)) w.heap.size 34 #[.slice none 0 0] := Bx.new _ _ _
  have hB0 : Below w.heap.size w (w.alloc (.cells #[.slice none 0 0] 34)) := (Below.refl _ _).alloc (Nat.le_refl _) _
  go_wp2_with fail
  refine (read_any b _ ?_ hn).mono ?_
  · exact hT.belowS hB0
  rintro e w1 ⟨v, rs, rfl, hrs, hown, hb1⟩
  have hB1 := hB0.trans (hb1.mono hB0.size)
  have hr1 := hr0.belowS hb1
  obtain ⟨B, cB, rfl⟩ := own_slice hown
  have hl := Rs.of_own hown
  have hBlt : ∀ a, B = some a → a.block < w1.heap.size := by
    intro a ha
    subst ha
    exact (hown.lt a.block rfl).2
  obtain ⟨hm, htl, hsz⟩ := reads_facts hrs
  obtain ⟨m, hmm⟩ : ∃ m, m = rs.length := ⟨_, rfl⟩
  rw [← hmm] at hm hl ⊢
  obtain ⟨t, ht⟩ : ∃ t, t = total (lsts rs) := ⟨_, rfl⟩
  rw [← ht] at htl ⊢
  have HT := Lib.hid ht
  have HR := Lib.hid hrs
  have HM := Lib.hid hmm
  have hs1 : Bx (w1.alloc (.cells #[.slice none 0 0] 34)) w1.heap.size 34 #[.slice none 0 0] := Bx.new _ _ _
  have hr1' := hr1.alloc (.cells #[.slice none 0 0] 34)
  have hl1' := hl.alloc (.cells #[.slice none 0 0] 34)
  have hB1' := hB1.alloc hB1.size (.cells #[.slice none 0 0] 34)
  have hlt := hr1.lt
  clear hown hr0 hB0 hb1 hmm ht hrs hr1 hl hB1
  go_wp2_with fail
  go_loopw [16] (fun i wr => OpenRel w B m rs w1.heap.size w.heap.size #[.slice none 0 0] i wr) (fun i _ => m - (intOf i).toNat)
  case atStart => exact ⟨0, none, 0, 0, by omega, rfl, hs1, hr1', Nat.le_refl _, fun _ => rfl, (fun a h => nomatch h), Rs.nil _ _ _, hl1', hB1'⟩
  case round =>
    obtain ⟨k, A, n, c, hk, rfl, hs, hr, hnc, hA, hne, hrl, hlB, hB⟩ := hrel
    obtain ⟨w2, rfl⟩ : ∃ w2 : World, w2 = wr := ⟨_, rfl⟩
    obtain ⟨sb, hsb⟩ : ∃ sb, sb = w1.heap.size := ⟨_, rfl⟩
    obtain ⟨L, hL⟩ : ∃ L, L = (rs.take k).foldl joinP [] := ⟨_, rfl⟩
    have hLn : L.length ≤ k := by
      have := join_len [] (rs.take k)
      rw [← hL] at this
      rw [List.length_take] at this
      simp at this
      omega
    have hLs : ∀ s ∈ L, s.size ≤ 1000000 := by
      intro s hs
      rw [hL] at hs
      rcases join_mem _ _ s hs with h | h
      · cases h
      · have := hsz s (List.mem_of_mem_take h); omega
    rw [← hL] at hrl
    have hll := hrl.slen
    have hn6 : n ≤ 1000000 := by omega
    clear hs1 hr1' hl1' hB1'
    rw [← hsb] at hs hne hlt hBlt ⊢
    have HSB := Lib.hid hsb
    have HL := Lib.hid hL
    clear hsb hL
    by_cases hlt2 : k < m
    · obtain ⟨g, o, rfl, hc⟩ := hlB.str hlt2
      obtain ⟨a, ha⟩ : ∃ a, a = gs rs k := ⟨_, rfl⟩
      have hkr : k < rs.length := by rw [← HM.out]; exact hlt2
      have hsa : a.size ≤ 1000000 := by
        have := hsz (gs rs k) (by simp [gs, hkr])
        rw [← ha] at this
        omega
      have hnext : (rs.take (k + 1)).foldl joinP [] = joinP L a := by
        rw [List.take_add_one, List.foldl_append, ← HL.out, ha]
        simp [gs, hkr]
      rw [← ha] at hc
      have HN := Lib.hid hnext
      clear ha hnext
      have hd : decide (k < m) = true := by simp; omega
      have hkm : (k : Int) < (m : Int) := by omega
      have hT2 := hT.belowS hB
      have s2 : w2.cell? ⟨sb, 0, none⟩ = some (.slice A n c) := hs.cell 0
      go_wp2_with fail
      clear hc hd
      go_region_held3 (fun X : World => X.cell? ⟨sb, 0, none⟩ = some (.slice A n c)) (go_keep) (first
        | (go_at_call 29; refine (of_dg a _ ?_ hsa).mono ?_; exact hT2; rintro e w3 ⟨d0, d1, d2, d3, hd, rfl, hb3⟩; have hB3 := hB.drew.trans (hb3.mono hB.size); have hs3 := hs.drew.belowS hb3; have hr3 := hr.drew.belowS hb3; have s3 : w3.cell? ⟨sb, 0, none⟩ = some (.slice A n c) := hs3.cell 0; have hT3 : Turns w3 := hT.belowS hB3; have hrl3 := hrl.drew.below hb3; have hlB3 := hlB.drew.below hb3)
        | (go_at_call 67; refine (find_any A n c L d0 d1 d2 d3 _ ?_ ?_ hn6 hLs).mono ?_; exact hT3; exact hrl3; rintro e w4 ⟨rfl, hb4⟩; have hB4 := hB3.trans (hb4.mono hB3.size); have hs4 := hs3.belowS hb4; have hr4 := hr3.belowS hb4; have s4 : w4.cell? ⟨sb, 0, none⟩ = some (.slice A n c) := hs4.cell 0; have hrl4 := hrl3.below hb4; have hlB4 := hlB3.below hb4))
      rw [← hd.out]
      clear hb3 hs3 hr3 s3 hT3 hrl3 hlB3 hb4 s2 hT2 hrl hs hr hB hB3 hlB
      rcases hf : findP L (dg a) with _ | i
      · have hj : joinP L a = L ++ [a] := by unfold joinP; rw [if_pos hf]
        have hjj : (rs.take (k + 1)).foldl joinP [] = L ++ [a] := by rw [HN.out, hj]
        have HJ := Lib.hid hjj
        clear hf hj hjj
        simp only [findI]
        go_wp2_with fail
        refine (with_any A n c L a w4 hrl4 hn6 hnc hA).mono ?_
        rintro e w5 ⟨v, rfl, A2, n2, c2, rfl, hnc2, hA2, hrl5, hge, hb5⟩
        have hB5 := hB4.trans (hb5.mono hB4.size)
        have hs5 := hs4.belowS hb5
        have hr5 := hr4.belowS hb5
        have hlB5 := hlB4.below hb5
        have hne5 : ∀ x, A2 = some x → x.block ≠ sb ∧ x.block ≠ w.heap.size := by
          intro x hx
          have h1 := hge x hx
          have h2 := hs4.lt
          have h3 := hr4.lt
          omega
        have hfr := hs5.frozen 0
        have s5 : w5.cell? ⟨sb, 0, none⟩ = some (.slice A n c) := hs5.cell 0
        clear hs4 hr4 s4 hrl4 hlB4 hB4 hb5 hge
        go_wp2_with fail
        have hgb : g ≠ sb := Nat.ne_of_lt (hBlt _ rfl)
        have hsr : w.heap.size ≠ sb := by omega
        refine ⟨⟨k + 1, A2, n2, c2, by omega, by go_num, hs5.set 0 _, hr5.far hsr _, hnc2, hA2, hne5, ?_, ?_, hB5.setCell (Nat.le_of_lt hlt) _⟩, by simp [intOf]; omega⟩
        · rw [HJ.out]
          exact rs_far hrl5 (fun x hx => (hne5 x hx).1) _
        · refine rs_far hlB5 (fun x hx => ?_) _
          cases hx
          exact hgb
      · have hj : joinP L a = L := by unfold joinP; rw [if_neg (by rw [hf]; simp)]
        have hjj : (rs.take (k + 1)).foldl joinP [] = L := by rw [HN.out, hj]
        have HJ := Lib.hid hjj
        clear hf hj hjj
        simp only [findI]
        have hi : ¬ (i : Int) < 0 := by omega
        go_wp2_with fail
        refine ⟨⟨k + 1, A, n, c, by omega, by go_num, ?_, hr4, hnc, hA, hne, ?_, hlB4, hB4⟩, by simp [intOf]; omega⟩
        · exact hs4
        · rw [HJ.out]; exact hrl4
    · obtain rfl : k = m := by omega
      have s2 : w2.cell? ⟨sb, 0, none⟩ = some (.slice A n c) := hs.cell 0
      have hfr := hr.frozen 0
      have q2 : w2.cell? ⟨w.heap.size, 0, none⟩ = some (.slice none 0 0) := hr.cell 0
      have hbt : ((b.size : Int) - t) = ((b.size - t : Nat) : Int) := by omega
      have HB := Lib.hid hbt
      clear hbt
      go_wp2_with fail
      have hfin : Bx (w2.setCell ⟨w.heap.size, 0, none⟩ (.slice A n c)) w.heap.size 34 #[.slice A n c] := hr.set 0 _
      refine bodyPost_ret (v := .tuple #[.agg #[.slice A n c], .int .i64 ((b.size : Int) - t)]) (results_row2 rfl _ _ w.heap.size 34 _ (0, 0) _ rfl rfl hfin Tryd.underlying34 rfl (by kernel_rfl)) rfl ⟨rs, A, n, c, HR.out, by rw [HB.out, HT.out], hnc, hA, ?_, hB.setCell (Nat.le_refl _) _⟩
      refine rs_far ?_ (fun x hx => (hne x hx).2) _
      have hall : openP rs = L := by
        rw [HL.out, HM.out, List.take_length]; rfl
      rw [hall]
      exact hrl
end Go.Proofs.YtgpohndnkecbeaaDoor
namespace Go.Proofs.YtgpohndnkecbeaaDoor
open Go Go.RowKit Go.Proofs.Sc
theorem strc {w : World} {g o m k : Nat} {rs : List ByteArray} (h : Rs w (some ⟨g, o, none⟩) m 1 (vs rs)) (hk : k < m) : w.cell? ⟨g, o + k, none⟩ = some (.string (gs rs k)) := by
  obtain ⟨g', o', e, hc⟩ := h.str hk
  cases e
  exact hc
theorem own_far {w : World} {base n : Nat} {e : TypeId} {size : Nat} {v : Value} {xs : List Value} (h : w.ownsRow base e size v n xs) {p : Addr} (hp : p.block < base) (u : Value) : (w.setCell p u).ownsRow base e size v n xs := by
  refine ⟨h.1, ?_⟩
  rcases h.2 with h | ⟨g, cap, cur, e1, e2, e3, e4⟩
  · exact .inl h
  · exact .inr ⟨g, cap, cur, e1, e2, (Below.heap_setCell w p u g (by omega)).trans e3, e4⟩
def ROpenRel (w : World) (B : Option Addr) (m : Nat) (rs : List ByteArray) (sb sr : Nat) (z : Array Value) (i : Value) (wr : World) : Prop :=
  ∃ (k : Nat) (v : Value) (n : Nat), k ≤ m ∧ i = .int .i64 k ∧ Bx wr sb 34 #[v] ∧ Bx wr sr 34 z ∧ wr.ownsRow (sb + 1) 9 1 v n (vs ((rs.take k).foldl joinP [])) ∧ Rs wr B m 1 (vs rs) ∧ Below w.heap.size w wr
set_option maxRecDepth 100000 in
set_option maxHeartbeats 1000000 in
theorem ropen_any (b : ByteArray) (w : World) (hn : b.size ≤ 900000) :
    Calls Tryd.prog 56 #[.string b] w fun e w' => OpenIs b w e w' := by
  go_enter Tryd.func56, Tryd.ntmps56
  have hr0 : Bx (w.alloc (.cells #[.slice none 0 0] 34)) w.heap.size 34 #[.slice none 0 0] := Bx.new _ _ _
  have hB0 : Below w.heap.size w (w.alloc (.cells #[.slice none 0 0] 34)) := (Below.refl _ _).alloc (Nat.le_refl _) _
  go_wp2_with fail
  refine (rread_any b _ hn).mono ?_
  rintro e w1 ⟨v, rs, rfl, hrs, hown, hb1⟩
  have hB1 := hB0.trans (hb1.mono hB0.size)
  have hr1 := hr0.belowS hb1
  obtain ⟨B, cB, rfl⟩ := own_slice hown
  have hl := Rs.of_own hown
  have hBlt : ∀ a, B = some a → a.block < w1.heap.size := by
    intro a ha
    subst ha
    exact (hown.lt a.block rfl).2
  obtain ⟨hm, htl, hsz⟩ := reads_facts hrs
  obtain ⟨m, hmm⟩ : ∃ m, m = rs.length := ⟨_, rfl⟩
  rw [← hmm] at hm hl ⊢
  obtain ⟨t, ht⟩ : ∃ t, t = total (lsts rs) := ⟨_, rfl⟩
  rw [← ht] at htl ⊢
  have HT := Lib.hid ht
  have HR := Lib.hid hrs
  have HM := Lib.hid hmm
  have hs1 : Bx (w1.alloc (.cells #[.slice none 0 0] 34)) w1.heap.size 34 #[.slice none 0 0] := Bx.new _ _ _
  have hr1' := hr1.alloc (.cells #[.slice none 0 0] 34)
  have hl1' := hl.alloc (.cells #[.slice none 0 0] 34)
  have hB1' := hB1.alloc hB1.size (.cells #[.slice none 0 0] 34)
  have hlt := hr1.lt
  clear hown hr0 hB0 hb1 hmm ht hrs hr1 hl hB1
  go_wp2_with fail
  have hown1 : (w1.alloc (.cells #[.slice none 0 0] 34)).ownsRow (w1.heap.size + 1) 9 1 (.slice none 0 0) 0 [] := World.ownsRow_nil _ _ _ _
  go_loopw [7] (fun i wr => ROpenRel w B m rs w1.heap.size w.heap.size #[.slice none 0 0] i wr) (fun i _ => m - (intOf i).toNat)
  case atStart => exact ⟨0, .slice none 0 0, 0, by omega, rfl, hs1, hr1', hown1, hl1', hB1'⟩
  case round =>
    obtain ⟨k, v, n, hk, rfl, hs, hr, hown, hlB, hB⟩ := hrel
    obtain ⟨w2, rfl⟩ : ∃ w2 : World, w2 = wr := ⟨_, rfl⟩
    obtain ⟨sb, hsb⟩ : ∃ sb, sb = w1.heap.size := ⟨_, rfl⟩
    obtain ⟨L, hL⟩ : ∃ L, L = (rs.take k).foldl joinP [] := ⟨_, rfl⟩
    have hLn : L.length ≤ k := by
      have := join_len [] (rs.take k)
      rw [← hL] at this
      rw [List.length_take] at this
      simp at this
      omega
    have hLs : ∀ s ∈ L, s.size ≤ 1000000 := by
      intro s hs
      rw [hL] at hs
      rcases join_mem _ _ s hs with h | h
      · cases h
      · have := hsz s (List.mem_of_mem_take h); omega
    rw [← hL] at hown
    obtain ⟨A, c, rfl, hnc, hcm⟩ := own_slice_cap hown
    have hrl := Rs.of_own hown
    have hll := hrl.slen
    have hn6 : n ≤ 1000000 := by omega
    clear hs1 hr1' hl1' hB1' hown1
    rw [← hsb] at hs hown hlt hBlt ⊢
    have HSB := Lib.hid hsb
    have HL := Lib.hid hL
    clear hsb hL
    by_cases hlt2 : k < m
    · obtain ⟨g, o, rfl, hc⟩ := hlB.str hlt2
      have hgb : g < sb := hBlt _ rfl
      obtain ⟨a, ha⟩ : ∃ a, a = gs rs k := ⟨_, rfl⟩
      have hkr : k < rs.length := by rw [← HM.out]; exact hlt2
      have hsa : a.size ≤ 1000000 := by
        have := hsz (gs rs k) (by simp [gs, hkr])
        rw [← ha] at this
        omega
      have hnext : (rs.take (k + 1)).foldl joinP [] = joinP L a := by
        rw [List.take_add_one, List.foldl_append, ← HL.out, ha]
        simp [gs, hkr]
      rw [← ha] at hc
      have HN := Lib.hid hnext
      have HA := Lib.hid ha
      clear ha hnext
      have hd : decide (k < m) = true := by simp; omega
      have hkm : (k : Int) < (m : Int) := by omega
      have s2 : w2.cell? ⟨sb, 0, none⟩ = some (.slice A n c) := hs.cell 0
      go_wp2_with fail
      clear hd
      go_region_held3 (fun X : World => X.cell? ⟨sb, 0, none⟩ = some (.slice A n c) ∧ X.cell? ⟨g, o + k, none⟩ = some (.string a)) (go_keep) (first
        | (go_at_call 54; refine (rof_dg a _ hsa).mono ?_; rintro e w3 ⟨d0, d1, d2, d3, hd, rfl, hb3⟩; have hB3 := hB.drew.trans (hb3.mono hB.size); have hs3 := hs.drew.belowS hb3; have hr3 := hr.drew.belowS hb3; have s3 : w3.cell? ⟨sb, 0, none⟩ = some (.slice A n c) := hs3.cell 0; have hrl3 := hrl.drew.below hb3; have hlB3 := hlB.drew.below hb3; have c3 : w3.cell? ⟨g, o + k, none⟩ = some (.string a) := HA.out ▸ strc hlB3 hlt2; have hown3 := own_below hown.drew hb3)
        | (go_at_call 77; refine (rfind_any A n c L d0 d1 d2 d3 w3 hrl3 hn6 hLs).mono ?_; rintro e w4 ⟨rfl, hb4⟩; have hB4 := hB3.trans (hb4.mono hB3.size); have hs4 := hs3.belowS hb4; have hr4 := hr3.belowS hb4; have s4 : w4.cell? ⟨sb, 0, none⟩ = some (.slice A n c) := hs4.cell 0; have hrl4 := hrl3.below hb4; have hlB4 := hlB3.below hb4; have c4 : w4.cell? ⟨g, o + k, none⟩ = some (.string a) := HA.out ▸ strc hlB4 hlt2; have hown4 := own_below hown3 hb4))
      rw [← hd.out]
      clear hb3 hs3 hr3 s3 hrl3 hlB3 hb4 s2 hrl hs hr hB hB3 hlB hown hown3 hc c3
      rcases hf : findP L (dg a) with _ | i
      · have hj : joinP L a = L ++ [a] := by unfold joinP; rw [if_pos hf]
        have hjj : (rs.take (k + 1)).foldl joinP [] = L ++ [a] := by rw [HN.out, hj]
        have HJ := Lib.hid hjj
        clear hf hj hjj
        simp only [findI]
        have hfr := hs4.frozen 0
        have hslt := hs4.lt
        have hsz4 : sb + 1 ≤ (w4.alloc (.cells #[.string a] 9)).drew.heap.size := by
          show sb + 1 ≤ (w4.alloc (.cells #[.string a] 9)).heap.size
          rw [World.size_alloc]; omega
        have hone1 : ∀ u ∈ (#[.string a] : Array Value).toList, u.oneCell' = true := by simp [Value.oneCell']
        have hl17 : (n + 1) * 16 ≤ 140737488355328 := by omega
        have hB5 := (hB4.alloc hB4.size (.cells #[.string a] 9)).drew
        have hs5 := (hs4.alloc (.cells #[.string a] 9)).drew
        have hr5 := (hr4.alloc (.cells #[.string a] 9)).drew
        have hlB5 := (hlB4.alloc (.cells #[.string a] 9)).drew
        have hsd := hs4.drew
        have sd : w4.drew.cell? ⟨sb, 0, none⟩ = some (.slice A n c) := s4
        have cd : w4.drew.cell? ⟨g, o + k, none⟩ = some (.string a) := c4
        have hgz : g < w4.heap.size := by omega
        have hrow : some sb ≠ (Value.slice A n c).ownBlock := by
          intro h
          have h1 := (hown4.lt sb h.symm).1
          omega
        have hrow2 : some w.heap.size ≠ (Value.slice A n c).ownBlock := by
          intro h
          have h1 := (hown4.lt w.heap.size h.symm).1
          omega
        have hne5 : g ≠ sb := by omega
        have hgl : w.heap.size ≠ sb := by omega
        have sd1 := hs5.cell 0
        have hown5 := (hown4.alloc (.cells #[.string a] 9)).drew
        have hbase : ∀ k, (Value.slice A n c).ownBlock = some k → w.heap.size ≤ k := fun k hk => by have := own_base hown4 k hk; omega
        clear hsd
        go_wp2_with fail
        go_region_law (first
          | (refine step_ap_new 22 9 _ 1 16 Tryd.underlying22 infoStr rfl (by decide) (by decide) rfl _ _ rfl (sb + 1) (.slice A n c) n _ rfl hown5 w4.heap.size 1 1 #[.string a] rfl (Bx.new w4 9 _).drew rfl hone1 hl17 hsz4 ?_; intro v6 w6 hown6 hg6 hat6; obtain ⟨g6, c6, rfl⟩ := ownsRow_succ hown6; have hs6 := hs5.grown hg6 hrow; have hr6 := hr5.grown hg6 hrow2; have hB6 := hB5.grown hg6 hB5.size hbase; have s6 : w6.cell? ⟨sb, 0, none⟩ = some (.slice A n c) := hs6.cell 0; have f6 := hs6.frozen 0))
        all_goals
          go_wp2_with fail
          have hY : Below (sb + 1) (w4.alloc (.cells #[.string a] 9)).drew w6 := (Below.refl _ _).grown hg6 hsz4 (own_base hown5)
          have hlB6 := rs_belowB hlB5 hY (fun x hx => by have := hBlt x hx; omega)
          refine ⟨⟨k + 1, _, n + 1, by omega, by go_num, hs6.set 0 _, hr6.far hgl _, ?_, ?_, hB6.setCell (Nat.le_of_lt hlt) _⟩, by simp [intOf]; omega⟩
          · rw [HJ.out, vs_app]
            exact own_far hown6 (Nat.lt_succ_self _) _
          · exact rs_far hlB6 (fun x hx => by cases hx; exact hne5) _
      · have hj : joinP L a = L := by unfold joinP; rw [if_neg (by rw [hf]; simp)]
        have hjj : (rs.take (k + 1)).foldl joinP [] = L := by rw [HN.out, hj]
        have HJ := Lib.hid hjj
        clear hf hj hjj
        simp only [findI]
        have hi : ¬ (i : Int) < 0 := by omega
        go_wp2_with fail
        refine ⟨⟨k + 1, .slice A n c, n, by omega, by go_num, hs4, hr4, ?_, hlB4, hB4⟩, by simp [intOf]; omega⟩
        rw [HJ.out]; exact hown4
    · obtain rfl : k = m := by omega
      have s2 : w2.cell? ⟨sb, 0, none⟩ = some (.slice A n c) := hs.cell 0
      have hfr := hr.frozen 0
      have q2 : w2.cell? ⟨w.heap.size, 0, none⟩ = some (.slice none 0 0) := hr.cell 0
      have hbt : ((b.size : Int) - t) = ((b.size - t : Nat) : Int) := by omega
      have HB := Lib.hid hbt
      have hA : A = none → c = 0 := by
        rintro rfl
        rcases hown.2 with ⟨e, -⟩ | ⟨_, _, _, e, -⟩
        · cases e; rfl
        · cases e
      have hne : ∀ x, A = some x → x.block ≠ w.heap.size := by
        rintro x rfl
        have := (hown.lt x.block rfl).1
        omega
      have HOW := Lib.hid hown
      clear hbt hown
      go_wp2_with fail
      have hfin : Bx (w2.setCell ⟨w.heap.size, 0, none⟩ (.slice A n c)) w.heap.size 34 #[.slice A n c] := hr.set 0 _
      refine bodyPost_ret (v := .tuple #[.agg #[.slice A n c], .int .i64 ((b.size : Int) - t)]) (results_row2 rfl _ _ w.heap.size 34 _ (0, 0) _ rfl rfl hfin Tryd.underlying34 rfl (by kernel_rfl)) rfl ⟨rs, A, n, c, HR.out, by rw [HB.out, HT.out], hnc, hA, ?_, hB.setCell (Nat.le_refl _) _⟩
      refine rs_far ?_ hne _
      have hall : openP rs = L := by
        rw [HL.out, HM.out, List.take_length]; rfl
      rw [hall]
      exact hrl
end Go.Proofs.YtgpohndnkecbeaaDoor
