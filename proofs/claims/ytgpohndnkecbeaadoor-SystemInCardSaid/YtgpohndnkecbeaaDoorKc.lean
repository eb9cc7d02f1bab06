/- The law JournalMore, walked. -/
import Derived.Test.YtgpohndnkecbeaaDoorKb
import Derived.Test.YtgpohndnkecbeaaDoorPe
namespace Go.Proofs.YtgpohndnkecbeaaDoor
open Go Go.RowKit Go.Proofs.Sc
/-- An empty literal of a slice type. -/
theorem own_empty (w : World) (t : TypeId) (size : Nat) : (w.alloc (.cells #[] t)).ownsRow w.heap.size t size (.slice (some ⟨w.heap.size, 0, none⟩) 0 0) 0 [] :=
  ⟨by simp, .inr ⟨w.heap.size, 0, #[], rfl, Nat.le_refl _, heap_alloc_new w _, Nat.le_refl _, by decide, by simp, by simp⟩⟩
theorem run_empty (W : World) : (Instr.buildSlice 22 0 #[]).run Tryd.prog W = .ok (.slice (some ⟨W.heap.size, 0, none⟩) 0 0) (W.alloc (.cells #[] 9)) := by
  have hf : Instr.fill (fun i => some (i, 1)) (Array.map (fun _ => (default : Value)) (Array.range 0)) [] = some #[] := by simp [Instr.fill]
  simp [Instr.buildSlice, run_underlying Tryd.underlying22, hf, newRow]
/-- A guarded operation whose guard lets it run. -/
theorem wpList_wanted {P : Program} {ops : Array Oper} {rest : List Oper} {o : Oper} {a : Act} {Q : Exit → Act → World → Prop} {W : World} (hw : Region.wanted o (yielded ops a.tmps) = true)
    (h : wpList P ops Q ({ o with guard := none } :: rest) a W) : wpList P ops Q (o :: rest) a W := by
  unfold wpList at h ⊢
  rw [if_pos hw]
  rw [if_pos (by simp [Region.wanted])] at h
  exact h
theorem small_of {a : List ByteArray} {k : Nat} (h : total (a.map fun r => r.data.toList) ≤ k) (hk : k < 4294967296) : ∀ r ∈ a.map (fun r => r.data.toList), r.length < 4294967296 := fun r hr => by
  have := total_mem hr
  omega
set_option maxRecDepth 100000 in
set_option maxHeartbeats 1500000 in
theorem more_any (A : Option Addr) (n c : Nat) (l : List ByteArray) (A' : Option Addr) (n' c' : Nat) (l' : List ByteArray) (s : ByteArray) (w : World) (hT : Turns w)
    (_hnc : n ≤ c) (_hA : A = none → c = 0) (hn : n ≤ 8796093022208) (hr : Rs w A n 1 (vs l)) (hs : ∀ s ∈ l, s.size ≤ 140737488355328)
    (_hnc' : n' ≤ c') (_hA' : A' = none → c' = 0) (hn' : n' ≤ 8796093022208) (hr' : Rs w A' n' 1 (vs l')) (hs' : ∀ s ∈ l', s.size ≤ 140737488355328) :
    Calls Tryd.prog 9 #[.slice A n c, .slice A' n' c', .string s] w fun e w' => e = .returned (.bool true) ∧ Below w.heap.size w w' := by
  have hT0 := hT.lt
  have hll := hr.slen
  have hll' := hr'.slen
  clear _hA _hA' _hnc _hnc'
  go_enter Tryd.func9, Tryd.ntmps9
  go_wp2_with fail
  refine (awake41_any _ hT).mono ?_
  rintro e w1 ⟨rfl, hB1⟩
  have hT1 := hT.belowS hB1
  have hr1 := hr.below hB1
  have hr1' := hr'.below hB1
  clear hr hr' hT
  by_cases hbig : (1000 : Int) < (n : Int) + (n' : Int)
  · go_wp2_with fail
    go_ret
    exact ⟨rfl, hB1⟩
  · have hnn : n + n' ≤ 1000 := by omega
    go_wp2_with fail
    refine (total_any A n c 1500 l w1 hr1 (by omega) (by omega) (fun s h => Nat.le_trans (hs s h) (by omega))).mono ?_
    rintro e w2 ⟨⟨t, rfl, ht1, ht2⟩, rfl⟩
    by_cases htb : (1500 : Int) < (t : Int)
    · go_wp2_with fail
      go_ret
      exact ⟨rfl, hB1⟩
    have htot : total (l.map fun r => r.data.toList) = t := ht1 (by omega)
    have ht : t ≤ 1500 := by omega
    clear ht1 ht2 hs
    go_wp2_with fail
    refine (total_any A' n' c' 1500 l' w1 hr1' (by omega) (by omega) (fun s h => Nat.le_trans (hs' s h) (by omega))).mono ?_
    rintro e w2 ⟨⟨t', rfl, ht1, ht2⟩, rfl⟩
    by_cases htb' : (1500 : Int) < (t' : Int)
    · go_wp2_with fail
      go_ret
      exact ⟨rfl, hB1⟩
    have htot' : total (l'.map fun r => r.data.toList) = t' := ht1 (by omega)
    have ht' : t' ≤ 1500 := by omega
    clear ht1 ht2 hs'
    by_cases hsb : (1500 : Int) < (s.size : Int)
    · go_wp2_with fail
      go_ret
      exact ⟨rfl, hB1⟩
    have hss : s.size ≤ 1500 := by omega
    go_wp2_with fail
    refine (put_any A n c l w1 hT1 (by omega) hr1 (by omega)).mono ?_
    rintro e w2 ⟨rfl, hb2⟩
    obtain ⟨p, hp⟩ : ∃ p : ByteArray, p = ⟨(putB (l.map fun r => r.data.toList)).toArray⟩ := ⟨_, rfl⟩
    have hpl : p.data.toList = putB (l.map fun r => r.data.toList) := by rw [hp]
    have hps : p.size = t := by rw [← size_list, hpl, putB_len, htot]
    rw [← hp]
    have hB2 : Below w.heap.size w w2 := hB1.trans (hb2.mono hB1.size)
    have hT2 := hT1.belowS hb2
    have hr2 := hr1.below hb2
    have hr2' := hr1'.below hb2
    clear hp hb2 hr1 hr1' hT1
    go_wp2_with fail
    refine (put_any A' n' c' l' w2 hT2 (by omega) hr2' (by omega)).mono ?_
    rintro e w3 ⟨rfl, hb3⟩
    obtain ⟨p', hp'⟩ : ∃ p : ByteArray, p = ⟨(putB (l'.map fun r => r.data.toList)).toArray⟩ := ⟨_, rfl⟩
    have hpl' : p'.data.toList = putB (l'.map fun r => r.data.toList) := by rw [hp']
    have hps' : p'.size = t' := by rw [← size_list, hpl', putB_len, htot']
    rw [← hp']
    have hB3 : Below w.heap.size w w3 := hB2.trans (hb3.mono hB2.size)
    have hT3 := hT2.belowS hb3
    have hr3 := hr2.below hb3
    have hr3' := hr2'.below hb3
    clear hp' hb3 hr2 hr2' hT2 hB1 hB2
    have b0 : Below w3.heap.size w3 (w3.alloc (.cells #[] 9)) := (Below.refl _ _).alloc (Nat.le_refl _) _
    have hbs := run_empty w3
    go_wp2_with (first | (at_builtin; refine ap_rs 22 9 _ 1 16 Tryd.underlying22 infoStr rfl (by decide) (by decide) rfl _ _ rfl w3.heap.size _ 0 _ rfl (own_empty w3 9 1) A n c (vs l) rfl (hr3.below b0) (vs_one l) (by omega) (by simp) ?_; intro v4 w4 hown4 hg4 hat4; have hb4 : Below w3.heap.size w3 w4 := b0.grown hg4 (by simp) (own_base (own_empty w3 9 1)); have hr4' : Rs w4 A' n' 1 (vs l') := hr3'.below hb4; have hsz4 : w3.heap.size ≤ w4.heap.size := hb4.size) | (at_builtin; refine ap_rs 22 9 _ 1 16 Tryd.underlying22 infoStr rfl (by decide) (by decide) rfl _ _ rfl w3.heap.size v4 (0 + n) _ rfl hown4 A' n' c' (vs l') rfl hr4' (vs_one l') (by omega) (by omega) ?_; intro v5 w5 hown5 hg5 hat5; obtain ⟨A5, c5, rfl⟩ := own_slice hown5))
    have hb5 : Below w3.heap.size w3 w5 := hb4.grown hg5 hsz4 (own_base hown4)
    have hB5 := hB3.trans (hb5.mono hB3.size)
    have hT5 := hT3.belowS hb5
    have hr5 : Rs w5 A5 (n + n') 1 (vs (l ++ l')) := by have := Rs.of_own hown5; rwa [Nat.zero_add, List.nil_append, ← vs_app] at this
    have hmap : (l ++ l').map (fun r => r.data.toList) = (l.map fun r => r.data.toList) ++ (l'.map fun r => r.data.toList) := List.map_append
    have htl2 : total ((l ++ l').map fun r => r.data.toList) ≤ 800000 := by rw [hmap, total_app]; omega
    have hput := put_any A5 (n + n') c5 (l ++ l') w5 hT5 (by omega) hr5 htl2
    refine hput.mono ?_
    rintro e w6 ⟨rfl, hb6⟩
    obtain ⟨u, hu⟩ : ∃ p : ByteArray, p = ⟨(putB ((l ++ l').map fun r => r.data.toList)).toArray⟩ := ⟨_, rfl⟩
    have hul : u = p ++ p' := by
      apply ba_inj
      rw [hu, append_list, hpl, hpl', hmap]
      simp [putB]
    rw [← hu]
    clear hu
    subst hul
    have hB6 := hB5.trans (hb6.mono hB5.size)
    have hT6 := hT5.belowS hb6
    have hr6 := (hr3.below hb5).below hb6
    have heq : ((p ++ p').toList == (p ++ p').toList) = true := by simp
    have hpp : (p ++ p').size ≤ 3000 := by rw [ByteArray.size_append]; omega
    clear hr5 hown5 hg5 hat5 hown4 hg4 hat4 hr4' hsz4 hb4 hb5 hb6 hB3 hB5 hT3 hT5 hr3 hr3' b0 hmap hbs
    go_wp2_with fail
    refine (read_any s w6 hT6 (by omega)).mono ?_
    rintro e w7 ⟨v, rs, rfl, hrs, hown, hb7⟩
    obtain ⟨A7, c7, rfl⟩ := own_slice hown
    have hrA := Rs.of_own hown
    have hB7 := hB6.trans (hb7.mono hB6.size)
    have hT7 := hT6.belowS hb7
    have hr7 := hr6.below hb7
    have hrl : rs.length ≤ 1000 := by
      have := reads_len 1000 s.data.toList
      rwa [← hrs, lsts_len] at this
    obtain ⟨y, hy⟩ : ∃ y, y = total (lsts rs) := ⟨_, rfl⟩
    rw [← hy]
    have hys : y ≤ 1500 := by
      have := reads_total 1000 s.data.toList
      rw [← hrs, ← hy, size_list] at this
      omega
    have HRS := Lib.hid hrs
    have HY := Lib.hid hy
    clear hown hb7 hr6 hT6 hB6 hrs hy
    go_wp2_with fail
    have hcs : (p ++ s).size ≤ 900000 := by rw [ByteArray.size_append]; omega
    refine (read_any (p ++ s) w7 hT7 hcs).mono ?_
    rintro e w8 ⟨v, rs2, rfl, hrs2, hown, hb8⟩
    obtain ⟨A8, c8, rfl⟩ := own_slice hown
    have hrB := Rs.of_own hown
    have hB8 := hB7.trans (hb8.mono hB7.size)
    have hr8 := hr7.below hb8
    have hrA8 := hrA.below hb8
    clear hown hb8 hrA hr7 hT7 hB7
    by_cases hmany : (1000 : Int) < (n : Int) + (rs.length : Int)
    · clear hrs2
      go_wp2_with fail
      go_ret
      exact ⟨rfl, hB8⟩
    · have h2 : lsts rs2 = (l.map fun r => r.data.toList) ++ lsts rs := by
        rw [hrs2, append_list, hpl, HRS.out]
        refine reads_more _ _ (small_of (k := 1500) (by omega) (by omega)) ?_
        rw [← HRS.out, lsts_len, List.length_map]
        omega
      obtain rfl : rs2 = l ++ rs := by
        apply lsts_inj
        rw [List.map_append]
        exact h2
      have ht2 : total (lsts (l ++ rs)) = t + y := by
        rw [h2, total_app, htot, ← HY.out]
      rw [ht2]
      rw [List.length_append, hll] at hrB ⊢
      clear hrs2 h2 ht2
      have hbs8 := run_empty w8
      have b8 : Below w8.heap.size w8 (w8.alloc (.cells #[] 9)) := (Below.refl _ _).alloc (Nat.le_refl _) _
      have hd8 : decide ((1000 : Int) < (n : Int) + (rs.length : Int)) = false := by simp; omega
      go_wp2_with (first | (at_builtin; refine wpList_wanted (by simp [Region.wanted, yielded]) ?_; refine ap_rs 22 9 _ 1 16 Tryd.underlying22 infoStr rfl (by decide) (by decide) rfl _ _ rfl w8.heap.size _ 0 _ rfl (own_empty w8 9 1) A n c (vs l) rfl (hr8.below b8) (vs_one l) (by omega) (by simp) ?_; intro v4 w4 hown4 hg4 hat4; have hb4 : Below w8.heap.size w8 w4 := b8.grown hg4 (by simp) (own_base (own_empty w8 9 1)); have hr4' : Rs w4 A7 rs.length 1 (vs rs) := hrA8.below hb4; have hsz4 : w8.heap.size ≤ w4.heap.size := hb4.size) | (at_builtin; refine wpList_wanted (by simp [Region.wanted, yielded]) ?_; refine ap_rs 22 9 _ 1 16 Tryd.underlying22 infoStr rfl (by decide) (by decide) rfl _ _ rfl w8.heap.size v4 (0 + n) _ rfl hown4 A7 rs.length c7 (vs rs) rfl hr4' (vs_one rs) (by omega) (by omega) ?_; intro v5 w5 hown5 hg5 hat5; obtain ⟨A5, c5, rfl⟩ := own_slice hown5))
      have hb5 : Below w8.heap.size w8 w5 := hb4.grown hg5 hsz4 (own_base hown4)
      have hr5 : Rs w5 A5 (n + rs.length) 1 (vs (l ++ rs)) := by have := Rs.of_own hown5; rwa [Nat.zero_add, List.nil_append, ← vs_app] at this
      have hlist := list_any A8 A5 (n + rs.length) c8 (n + rs.length) c5 (l ++ rs) (l ++ rs) w5 (hrB.below hb5) hr5 (by omega)
      refine hlist.mono ?_
      rintro e w9 ⟨rfl, hb9⟩
      rw [decide_eq_true rfl]
      have hB9 := (hB8.trans (hb5.mono hB8.size)).trans (hb9.mono (Nat.le_trans hB8.size hb5.size))
      clear hlist hr5 hb5 hown5 hg5 hat5 hown4 hg4 hat4 hr4' hsz4 hb4 hput
      go_wp2_with fail
      go_ret
      exact ⟨rfl, hB9⟩
end Go.Proofs.YtgpohndnkecbeaaDoor
