/- Contracts: journal.records, journal.Read. -/
import Derived.Test.YtgpohndnkecbeaaDoorJb
import Derived.Test.YtgpohndnkecbeaaDoorMc
import Derived.Deep.DeepMust
namespace Go.Proofs.YtgpohndnkecbeaaDoor
open Go Go.RowKit Go.Proofs.Sc Go.Shelf
attribute [local go_sem] Oper.semAt_some
set_option maxHeartbeats 400000 in
theorem records_any (s : ByteArray) (w : World) :
    Calls Tryd.prog 63 #[.string s] w fun e w' => e = .returned (.func (.func 89) #[] #[.pointer (some ⟨w.heap.size, 0, none⟩)]) ∧ w' = w.alloc (.cells #[.string s] 9) := by
  go_enter Tryd.func63, Tryd.ntmps63
  go_wp2
  go_ret
  exact ⟨rfl, rfl⟩
/-- What Read has gathered. -/
def ReadRel (w : World) (B : Nat) (pre : List BS) (W : World) : Prop :=
  (∃ v, Boxed W B 22 v ∧ W.ownsRow w.heap.size 9 1 v pre.length (vs (pre.map (·.1))) ∧ v.ownBlock ≠ some (B + 2)) ∧ Boxed W (B + 1) 3 (.int .i64 (total (lstb pre) : Nat)) ∧ Below w.heap.size w W ∧ B + 2 < W.heap.size
theorem readRel_own (w : World) (B C : Nat) (hB : w.heap.size ≤ B) (hC : w.heap.size ≤ C) : OwB (B + 2) C (ReadRel w B) := by
  rintro s X Y row ⟨⟨v, hv, hr, hne⟩, hn, hb, hsz⟩ hg hrow
  have far : ∀ k o, X.heap[k]? = some o → o.isCells = true → k ≠ B + 2 → some k ≠ row := fun k o hk ho hkb e => by
    rcases hrow k e.symm with h | ⟨_, o', ho', hc⟩
    · exact hkb h
    · rw [hk] at ho'; cases ho'; rw [ho] at hc; cases hc
  refine ⟨⟨v, hv.kept hg (far B _ hv rfl (by omega)), hr.kept hg ?_, hne⟩, hn.kept hg (far (B + 1) _ hn rfl (by omega)), hb.grown hg hb.size fun k e => ?_, Nat.lt_of_lt_of_le hsz hg.size⟩
  · rcases hr.2 with ⟨rfl, _⟩ | ⟨g, cap, cur, rfl, _, hgb, _⟩
    · exact .inl rfl
    · exact .inr (far g _ hgb rfl (fun e => hne (by simp [Value.ownBlock, e])))
  · rcases hrow k e with h | ⟨h, _⟩ <;> omega
set_option maxRecDepth 100000 in
set_option maxHeartbeats 2000000 in
theorem read_any (s : ByteArray) (w : World) (hT : Turns w) (hn : s.size ≤ 900000) :
    Calls Tryd.prog 24 #[.string s] w fun e w' => ∃ (v : Value) (rs : List ByteArray), e = .returned (.tuple #[v, .int .i64 (total (lsts rs) : Nat)]) ∧ lsts rs = reads 1000 s.data.toList ∧ w'.ownsRow w.heap.size 9 1 v rs.length (vs rs) ∧ Below w.heap.size w w' := by
  have hT0 := hT.lt
  refine (callsIn_wide (n := 6)).1 ?_
  refine callsIn_of_wp_marks Tryd.func24 rfl trivial ?_ rfl
  simp only [Tryd.ntmps24, List.size_toArray, List.length_cons, List.length_nil, Nat.reduceAdd, Nat.reduceSub, Array.replicate_succ, Array.replicate_zero, List.push_toArray, List.append_toArray, List.nil_append, List.cons_append]
  gi_wp2_with fail
  refine ⟨trivial, ?_⟩
  refine (callsIn_wide.2 (records_any s _)).mono ?_
  rintro e w' ⟨rfl, rfl⟩
  gi_wp2_with fail
  have bL := Boxed.new w 22 (.slice none 0 0)
  have bN := Boxed.new (w.alloc (.cells #[.slice none 0 0] 22)) 3 (.int .i64 0)
  have bS := Bx.new ((w.alloc (.cells #[.slice none 0 0] 22)).alloc (.cells #[.int .i64 0] 3)) 9 #[.string s]
  simp only [World.size_alloc] at bN bS
  have hB0 : Below w.heap.size w (((w.alloc (.cells #[.slice none 0 0] 22)).alloc (.cells #[.int .i64 0] 3)).alloc (.cells #[.string s] 9)) := (((Below.refl _ w).alloc (Nat.le_refl _) _).alloc (by simp) _).alloc (by simp; omega) _
  refine range_cap rfl (by decide) (gf := 89) (lb := #[.pointer (some ⟨w.heap.size + 2, 0, none⟩)]) rfl trivial (enters_of Tryd.func89 (by kernel_rfl) rfl) (encs := fun x : BS => #[.string x.1]) (fun _ => rfl)
    (w.heap.size + 2) (by simp) (fun k => k = 0 ∨ k = w.heap.size + 2) (by rintro k (rfl | rfl) <;> simp) (N := 900000)
    (S := fun xs => reads xs.length s.data.toList = lstb xs ∧ firstP (s.data.toList.drop (total (lstb xs))) = none) (Sp := fun pre => reads pre.length s.data.toList = lstb pre)
    (fun l J Jx W hW hJ hJx hY h0 => rec1_in _ l (w.heap.size + 2) s hn (by omega) J Jx W hJ hJx hY h0 (hT.below (hB0.trans (hW.mono hB0.size)) hT0) (bS.belowS hW))
    (fun pre W => pre.length ≤ 1000 ∧ ReadRel w w.heap.size pre W) (fun id xs W => ∃ pre x, xs = pre ++ [x] ∧ pre.length = 1000 ∧ id = 0 ∧ ReadRel w w.heap.size pre W)
    ?hI ?hIx ?h0 (fun x : BS => { tmps := #[.string s, undef, .slice none 0 0, .int .i64 0, .pointer (some ⟨w.heap.size, 0, none⟩), .pointer (some ⟨w.heap.size + 1, 0, none⟩), .string x.1, .string s, .func (.func 89) #[] #[.pointer (some ⟨w.heap.size + 2, 0, none⟩)], .string x.1, undef, undef, undef, undef, undef, undef, undef, undef, undef, undef, undef, undef, undef, undef], defers := [] }) ?assign ?body ?done ?stop
  case hI => exact fun s A B row hs hg hr => ⟨hs.1, readRel_own w w.heap.size _ (Nat.le_refl _) (by simp; omega) s A B row hs.2 hg hr⟩
  case hIx => exact fun c s A B row ⟨pre, x, e1, e2, e3, hs⟩ hg hr => ⟨pre, x, e1, e2, e3, readRel_own w w.heap.size _ (Nat.le_refl _) (by simp; omega) pre A B row hs hg hr⟩
  case h0 => exact ⟨by simp, ⟨_, (bL.alloc _).alloc _, World.ownsRow_nil _ _ _ _, by simp [Value.ownBlock]⟩, bN.alloc _, hB0, by simp⟩
  case assign =>
    intro l x W K hK
    gi_wp2
    exact hK
  case body =>
    rintro l pre x W ⟨hlen, ⟨v, hv, hrow, hne⟩, hnb, hB, hbig⟩ hN
    obtain ⟨A, c, rfl⟩ := own_slice hrow
    have hcv := hv.cell
    have hfv := hv.frozen
    have hcn := hnb.cell
    have hfn := hnb.frozen
    by_cases h1000 : pre.length = 1000
    · have hb1 : ((pre.length : Int) == 1000) = true := by simp; omega
      gi_wp2_with fail
      exact ⟨KeepsFrom.refl _ _, pre, x, rfl, h1000, rfl, ⟨_, hv, hrow, hne⟩, hnb, hB, hbig⟩
    · have hb1 : ((pre.length : Int) == 1000) = false := by simp; omega
      have hx1 := x.2
      have hN2 : total (lstb pre) + 20 + x.1.size ≤ 140737488355328 := by have := lstb_total pre; omega
      have hN3 : (total (lstb pre) : Int) + (20 + (x.1.size : Int)) ≤ 140737488355328 := by omega
      have hvA : Boxed (W.alloc (.cells #[.string x.1] 9)) w.heap.size 22 (.slice A pre.length c) := hv.alloc _
      have hnA : Boxed (W.alloc (.cells #[.string x.1] 9)) (w.heap.size + 1) 3 (.int .i64 (total (lstb pre) : Nat)) := hnb.alloc _
      have hrA : (W.alloc (.cells #[.string x.1] 9)).ownsRow w.heap.size 9 1 (.slice A pre.length c) pre.length (vs (pre.map (·.1))) := hrow.alloc _
      have hne1 := hvA.not_row (e := 9) (by decide) hrA
      have hne2 := hnA.not_row (e := 9) (by decide) hrA
      have hbs : w.heap.size ≤ (W.alloc (.cells #[.string x.1] 9)).heap.size := by have := hB.size; simp; omega
      have hl16 : (pre.length + 1) * 16 ≤ 140737488355328 := by omega
      have hone : ∀ u ∈ (#[.string x.1] : Array Value).toList, u.oneCell' = true := by simp [Value.oneCell']
      gi_wp2_with (first | (gi_at_builtin; refine apIn_new 22 9 _ 1 16 Tryd.underlying22 infoStr rfl (by decide) (by decide) rfl _ _ rfl w.heap.size (.slice A pre.length c) pre.length _ rfl hrA W.heap.size 1 1 #[.string x.1] rfl (Bx.new W 9 _) rfl hone hl16 hbs ?_; intro v3 w3 hown3 hg3 hat3; obtain ⟨g3, c3, rfl⟩ := ownsRow_succ hown3; have hv3 := hvA.kept hg3 hne1; have hn3 := hnA.kept hg3 hne2; have hcv3 := hv3.cell; have hfv3 := hv3.frozen; have hcn3 := hn3.cell; have hfn3 := hn3.frozen))
      have hBA : Below w.heap.size w w3 := (hB.alloc hB.size _).grown hg3 hbs (own_base hrA)
      refine ⟨?_, ?_, ?_, ?_⟩
      · refine (((KeepsOthers.alloc W _).trans (KeepsOthers.of_grownBy hg3 fun j o ej hj => ?_)).trans ((KeepsOthers.setCell _ _ _).trans (KeepsOthers.setCell _ _ _))).from _
        rcases hrA.2 with ⟨e, _⟩ | ⟨g, cap, cur, e, _, hgb, _⟩
        · rw [e] at ej; simp [Value.ownBlock] at ej
        · rw [e] at ej
          obtain rfl : g = j := by simpa [Value.ownBlock] using ej
          rw [hgb] at hj; cases hj; rfl
      · intro k hk
        have hk0 : k ≠ w.heap.size ∧ k ≠ w.heap.size + 1 ∧ k < W.heap.size ∧ some k ≠ (Value.slice A pre.length c).ownBlock := by
          have h1 := hnb.lt
          rcases hk with rfl | rfl
          · refine ⟨by omega, by omega, by omega, fun e => ?_⟩
            have := own_base hrA 0 e.symm
            omega
          · exact ⟨by omega, by omega, hbig, fun e => hne e.symm⟩
        exact ((Below.heap_setCell _ _ _ _ hk0.2.1).trans (Below.heap_setCell _ _ _ _ hk0.1)).trans ((hg3.block k (by simp; omega) hk0.2.2.2).trans (Below.heap_alloc _ _ _ hk0.2.2.1))
      · rw [List.length_append, List.length_singleton]; omega
      · have hnr := hv3.not_row (e := 9) (by decide) hown3
        have hnr2 := hn3.not_row (e := 9) (by decide) hown3
        refine ⟨⟨_, (hv3.set _).kept (grownBy_setCell' _ _ _) (by simp), ?_, ?_⟩, ?_, ?_, ?_⟩
        · have h1 := (hown3.kept (grownBy_setCell' w3 w.heap.size (.slice (some ⟨g3, 0, none⟩) (pre.length + 1) c3)) (.inr hnr.symm)).kept (grownBy_setCell' _ (w.heap.size + 1) (.int .i64 ((total (lstb pre) : Nat) + (20 + (x.1.size : Int))))) (.inr hnr2.symm)
          rw [List.length_append, List.length_singleton, List.map_append, vs_app]
          exact h1
        · rcases hat3 with h | h
          · rw [h]; exact hne
          · rw [h]; simp; omega
        · have h1 := (hn3.kept (grownBy_setCell' w3 w.heap.size (.slice (some ⟨g3, 0, none⟩) (pre.length + 1) c3)) (by simp)).set (.int .i64 ((total (lstb pre) : Nat) + (20 + (x.1.size : Int))))
          have e : ((total (lstb pre) : Nat) : Int) + (20 + (x.1.size : Int)) = ((total (lstb (pre ++ [x])) : Nat) : Int) := by
            rw [lstb_app, total_app]
            simp [lstb, total]
          rw [e] at h1 ⊢
          exact h1
        · exact (hBA.setCell (p := ⟨w.heap.size, 0, none⟩) (Nat.le_refl _) _).setCell (p := ⟨w.heap.size + 1, 0, none⟩) (by simp) _
        · have := hg3.size; simp at this ⊢; omega
  case done =>
    rintro D ys W hD ⟨hr, hno⟩ ⟨hlen, ⟨v, hv, hrow, hne⟩, hnb, hB, hbig⟩ hK
    obtain ⟨A, c, rfl⟩ := own_slice hrow
    have hcv := hv.cell
    have hcn := hnb.cell
    gi_wp2_with fail
    gi_region
    gi_wp2_with fail
    refine ⟨by simp, .inl ⟨_, _, rfl, run_takeDeferred hK, ?_⟩⟩
    refine ⟨_, results_tmp2 rfl _ _ _, .slice A ys.length c, ys.map (·.1), by rw [← lstb_lsts]; rfl, ?_, ?_, ?_⟩
    · rw [← lstb_lsts, ← hr]
      have hyl : (reads ys.length s.data.toList).length = ys.length := by rw [hr]; simp [lstb]
      have h1 := reads_full ys.length (1000 - ys.length) s.data.toList hyl (by rw [hr]; exact hno)
      rw [← h1]; congr 1; omega
    · have h1 := ownsRow_putObj (hrow.drew) (.deferred none) hK rfl
      rw [List.length_map]
      exact h1
    · exact hB.drew.trans (belowK_b (w := w) (Nat.le_refl _) _ D _ _ (by simp at hD; omega) hK rfl rfl)
  case stop =>
    rintro D c xs W hD hr ⟨pre, x, rfl, h1000, rfl, ⟨v, hv, hrow, hne⟩, hnb, hB, hbig⟩ hK
    obtain ⟨A, c, rfl⟩ := own_slice hrow
    have hcv := hv.cell
    have hcn := hnb.cell
    gi_wp2_with fail
    gi_region
    gi_wp2_with fail
    refine ⟨by simp, .inl ⟨_, _, rfl, run_takeDeferred hK, ?_⟩⟩
    refine ⟨_, results_tmp2 rfl _ _ _, .slice A 1000 c, pre.map (·.1), by rw [← lstb_lsts]; rfl, ?_, ?_, ?_⟩
    · rw [← lstb_lsts]
      rw [List.length_append, List.length_singleton, h1000] at hr
      rw [reads_take 1000 1, hr, lstb_app, List.take_left' (by simp [lstb, h1000])]
    · have h1 := ownsRow_putObj (hrow.drew) (.deferred none) hK rfl
      rw [List.length_map]
      rw [h1000] at h1 ⊢
      exact h1
    · exact hB.drew.trans (belowK_b (w := w) (Nat.le_refl _) _ D _ _ (by simp at hD; omega) hK rfl rfl)
end Go.Proofs.YtgpohndnkecbeaaDoor
