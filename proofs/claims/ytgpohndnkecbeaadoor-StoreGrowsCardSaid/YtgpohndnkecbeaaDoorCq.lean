/- PROVED: StoreGrows returns true for every input and never panics; its arguments read as before. Condition: digest.turns holds what the program's text lays. -/
import Derived.Test.YtgpohndnkecbeaaDoorOp
import Derived.Test.YtgpohndnkecbeaaDoorLg
import Derived.Test.YtgpohndnkecbeaaDoorTie
import Derived.Test.YtgpohndnkecbeaaDoorCards
import Derived.SevenTiedAt
namespace Go.Proofs.YtgpohndnkecbeaaDoor
open Go Go.ChangeShapes Go.WideShapes Go.ChangeAt Go.ChangeMaps Go.RowKit Go.Proofs.Sc
set_option maxRecDepth 100000 in
theorem storeGrows_lifted (os : Os) (started : os.Started) (H : Type) (enc : TypeId × Value → H) :
    ReturnsInHanded {} Tryd.checked os 13 .any (fun w args => (Rows.storeGrowsSpec.pre enc Tryd.prog Tryd.f13 [] false w args ∧ laidMetH Tryd.prog laidL w) ∧ sizedMet enc Tryd.prog Tryd.f13 (OpenSpec.ofChange Rows.storeGrowsSpec) false w args)
      (Rows.storeGrowsSpec.post enc Tryd.prog Tryd.f13 false true false false) := by
  refine returnsInHanded_of_change_and (C := Tryd.checked) (X := fun w _ => laidMetH Tryd.prog laidL w) (fun _ _ _ hh h => h.of_heap hh) Tryd.own started (by kernel_rfl) Tryd.func13
    (ChangeSpec.witness_shaped (enc := enc) (C := Tryd.checked) (os := os) (X := fun w _ => laidMetH Tryd.prog laidL w) false (World.doorLaid Tryd.prog 400 os) #[.agg #[.slice none 0 0], .slice none 0 0] 8 rfl (World.shaped_of_RefB (by kernel_rfl) (by kernel_rfl)) (by kernel_rfl) (by kernel_rfl) (by kernel_rfl) (door_met os _)) ?_
  intro W base args ds gs before hval0 hW _ hZ0 hL _
  have hval : ∀ (j : Nat) t v, Tryd.f13.params[j]? = some t → args[j]? = some v → Value.okWide Tryd.prog W .any base t v := hval0
  have hW' := hW
  obtain ⟨p, q, hA0, hV, rfl, hfz, hnd⟩ := hW
  have hA : DataW.TrodAll enc Tryd.prog W 0 (fun _ => true) true Tryd.f13.params.toList args.toList ds p := hA0
  have hA1 := hA
  have hZ : (DataW.weightsEach Tryd.prog (Tryd.f13.params.toList ++ Rows.storeGrowsSpec.plain.varTypes Tryd.prog) (ds ++ gs)).all (· ≤ reachBytes) = true := hZ0
  rw [Tryd.params13] at hA hval hZ
  obtain ⟨v0, v1, d0, d1, p0, p1, rfl, rfl, rfl, h0, h1⟩ := trodAll_two hA
  obtain ⟨rfl, rfl⟩ := trodVars_none hV
  obtain ⟨A1, n1, c1, l1, rfl, hc1, ha1, hn1, hr1, hz1⟩ := open_list (j := 1) hZ rfl rfl (hval 1 22 v1 rfl rfl) h1
  obtain ⟨A0, n0, c0, l0, rfl, hc0, ha0, hn0, hr0, hz0⟩ := open_store (j := 0) hZ rfl rfl (hval 0 34 v0 rfl rfl) h0
  refine (grows_any A0 n0 c0 l0 A1 n1 c1 l1 W (turns_of_laid hL) hc0 ha0 (by omega) hr0 hc1 ha1 hn1 hr1 hz1 ).mono fun e W' ⟨he, hb⟩ => ?_
  subst he
  exact ⟨_, rfl, post_law hW' rfl (by kernel_rfl) (by kernel_rfl) hA1 (by simp) rfl hb⟩
theorem storeGrows_holds : Rows.StoreGrowsSaid :=
  OpenClaim.holds_of_wide 13 Tryd.f13 rfl rfl rfl rfl rfl rfl rfl ⟨rfl, rfl, rfl, rfl, rfl⟩ rfl rfl rfl rfl rfl (by kernel_rfl) Tryd.func13 (by kernel_rfl)
    (of_decide_eq_true (by kernel_rfl)) (by unfold Func.isWrapper; first | (rw [if_pos (by decide +kernel)]; kernel_rfl) | (rw [if_neg (by decide +kernel)]; exact ⟨rfl, rfl⟩))
    (fun os started H enc _ => storeGrows_lifted os started H enc)
theorem storeGrows_card : Rows.StoreGrowsCardSaid :=
  Claim7.holds_tied_plain_at .later [] [.data] true (true, "fb0e76b5dbb68d0ad45a501dba6a245b6925de40cde5330336d89385f6f78e3d") false
    storeGrows_holds (fun _ h => by cases h) (by kernel_rfl) (fun _ h => by cases h) storeGrows_row_tie rfl ⟨rfl, rfl⟩ (by kernel_rfl) rfl
    (fun f fn hf hfn => by
      obtain rfl : f = 13 := Option.some.inj ((show Tryd.prog.funcNamed "seedcorn/seedcornlaw42.StoreGrows" = some 13 by kernel_rfl).symm.trans hf) |>.symm
      obtain rfl : fn = Tryd.f13 := (Option.some.inj (Tryd.func13.symm.trans hfn)).symm
      exact ⟨by kernel_rfl, fun j t ht => by
        rw [Tryd.params13] at ht
        have hm : t ∈ [34, 22] := by simpa using Array.mem_of_getElem? ht
        have hall : ([34, 22].all fun u => !Tryd.prog.wantsStandIn u) = true := by kernel_rfl
        exact (show Tryd.prog.wantsStandIn t = false by simpa using List.all_eq_true.1 hall t hm)⟩)
    (by kernel_rfl)
#print axioms storeGrows_card
end Go.Proofs.YtgpohndnkecbeaaDoor
