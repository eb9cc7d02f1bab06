/- PROVED: StoreSame returns true for every input and never panics; its arguments read as before. Condition: digest.turns holds what the program's text lays. -/
import Derived.Test.YtgpohndnkecbeaaDoorOp
import Derived.Test.YtgpohndnkecbeaaDoorLh
import Derived.Test.YtgpohndnkecbeaaDoorTie
import Derived.Test.YtgpohndnkecbeaaDoorCards
import Derived.SevenTiedAt
namespace Go.Proofs.YtgpohndnkecbeaaDoor
open Go Go.ChangeShapes Go.WideShapes Go.ChangeAt Go.ChangeMaps Go.RowKit Go.Proofs.Sc
set_option maxRecDepth 100000 in
theorem storeSame_lifted (os : Os) (started : os.Started) (H : Type) (enc : TypeId × Value → H) :
    ReturnsInHanded {} Tryd.checked os 14 .any (fun w args => (Rows.storeSameSpec.pre enc Tryd.prog Tryd.f14 [] false w args ∧ laidMetH Tryd.prog laidL w) ∧ sizedMet enc Tryd.prog Tryd.f14 (OpenSpec.ofChange Rows.storeSameSpec) false w args)
      (Rows.storeSameSpec.post enc Tryd.prog Tryd.f14 false true false false) := by
  refine returnsInHanded_of_change_and (C := Tryd.checked) (X := fun w _ => laidMetH Tryd.prog laidL w) (fun _ _ _ hh h => h.of_heap hh) Tryd.own started (by kernel_rfl) Tryd.func14
    (ChangeSpec.witness_shaped (enc := enc) (C := Tryd.checked) (os := os) (X := fun w _ => laidMetH Tryd.prog laidL w) false (World.doorLaid Tryd.prog 400 os) #[.agg #[.slice none 0 0], .agg #[.slice none 0 0]] 8 rfl (World.shaped_of_RefB (by kernel_rfl) (by kernel_rfl)) (by kernel_rfl) (by kernel_rfl) (by kernel_rfl) (door_met os _)) ?_
  intro W base args ds gs before hval0 hW _ hZ0 hL _
  have hval : ∀ (j : Nat) t v, Tryd.f14.params[j]? = some t → args[j]? = some v → Value.okWide Tryd.prog W .any base t v := hval0
  have hW' := hW
  obtain ⟨p, q, hA0, hV, rfl, hfz, hnd⟩ := hW
  have hA : DataW.TrodAll enc Tryd.prog W 0 (fun _ => true) true Tryd.f14.params.toList args.toList ds p := hA0
  have hA1 := hA
  have hZ : (DataW.weightsEach Tryd.prog (Tryd.f14.params.toList ++ Rows.storeSameSpec.plain.varTypes Tryd.prog) (ds ++ gs)).all (· ≤ reachBytes) = true := hZ0
  rw [Tryd.params14] at hA hval hZ
  obtain ⟨v0, v1, d0, d1, p0, p1, rfl, rfl, rfl, h0, h1⟩ := trodAll_two hA
  obtain ⟨rfl, rfl⟩ := trodVars_none hV
  obtain ⟨A0, n0, c0, l0, rfl, hc0, ha0, hn0, hr0, hz0⟩ := open_store (j := 0) hZ rfl rfl (hval 0 34 v0 rfl rfl) h0
  obtain ⟨A1, n1, c1, l1, rfl, hc1, ha1, hn1, hr1, hz1⟩ := open_store (j := 1) hZ rfl rfl (hval 1 34 v1 rfl rfl) h1
  refine (ssame_any A0 n0 c0 l0 A1 n1 c1 l1 W (turns_of_laid hL) hc0 ha0 (by omega) hr0 hc1 ha1 (by omega) hr1 ).mono fun e W' ⟨he, hb⟩ => ?_
  subst he
  exact ⟨_, rfl, post_law hW' rfl (by kernel_rfl) (by kernel_rfl) hA1 (by simp) rfl hb⟩
theorem storeSame_holds : Rows.StoreSameSaid :=
  OpenClaim.holds_of_wide 14 Tryd.f14 rfl rfl rfl rfl rfl rfl rfl ⟨rfl, rfl, rfl, rfl, rfl⟩ rfl rfl rfl rfl rfl (by kernel_rfl) Tryd.func14 (by kernel_rfl)
    (of_decide_eq_true (by kernel_rfl)) (by unfold Func.isWrapper; first | (rw [if_pos (by decide +kernel)]; kernel_rfl) | (rw [if_neg (by decide +kernel)]; exact ⟨rfl, rfl⟩))
    (fun os started H enc _ => storeSame_lifted os started H enc)
theorem storeSame_card : Rows.StoreSameCardSaid :=
  Claim7.holds_tied_plain_at .later [] [.data] true (true, "fb0e76b5dbb68d0ad45a501dba6a245b6925de40cde5330336d89385f6f78e3d") false
    storeSame_holds (fun _ h => by cases h) (by kernel_rfl) (fun _ h => by cases h) storeSame_row_tie rfl ⟨rfl, rfl⟩ (by kernel_rfl) rfl
    (fun f fn hf hfn => by
      obtain rfl : f = 14 := Option.some.inj ((show Tryd.prog.funcNamed "seedcorn/seedcornlaw42.StoreSame" = some 14 by kernel_rfl).symm.trans hf) |>.symm
      obtain rfl : fn = Tryd.f14 := (Option.some.inj (Tryd.func14.symm.trans hfn)).symm
      exact ⟨by kernel_rfl, fun j t ht => by
        rw [Tryd.params14] at ht
        have hm : t ∈ [34, 34] := by simpa using Array.mem_of_getElem? ht
        have hall : ([34, 34].all fun u => !Tryd.prog.wantsStandIn u) = true := by kernel_rfl
        exact (show Tryd.prog.wantsStandIn t = false by simpa using List.all_eq_true.1 hall t hm)⟩)
    (by kernel_rfl)
#print axioms storeSame_card
end Go.Proofs.YtgpohndnkecbeaaDoor
