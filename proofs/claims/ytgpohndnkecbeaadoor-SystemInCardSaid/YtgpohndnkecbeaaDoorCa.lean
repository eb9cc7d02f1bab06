/- From the row's premises to the walk's: the table of turns, an argument that is only read. -/
import Derived.Test.YtgpohndnkecbeaaDoorRows
import Derived.Test.YtgpohndnkecbeaaDoorMa
import Derived.ProofKit
import Derived.LaidMore
import Derived.OpenShut
import Derived.Stop.Joined
import Derived.Lib.LaidTab
import Derived.SizedLaws
namespace Go.Proofs.YtgpohndnkecbeaaDoor
open Go Go.ChangeShapes Go.WideShapes Go.ChangeAt Go.RowKit Go.Proofs.Sc
theorem Tryd.own : ownKnob Tryd.prog.godebug = none := by kernel_rfl
theorem Tryd.laidOut : laidOutB Tryd.prog = true := by kernel_rfl
theorem gTurns : Tryd.prog.globalNamed "seedcorn/digest.turns" = some 0 := by kernel_rfl
theorem tTurns : (Tryd.prog.globals[0]?).map (·.type) = some 136 := by kernel_rfl
abbrev laidL : List (String × DataW Unit) := [("seedcorn/digest.turns", Rows.laid_seedcorn_digest_turns)]
theorem door_met (os : Os) (args : Array Value) : laidMetH Tryd.prog laidL ((World.doorLaid Tryd.prog 400 os).forCall (fun _ _ => 0) ⟨#[], args, []⟩).memory :=
  laidMetH_of_parts3 (fuel := 8) (laidMet_of_run' 8 (by kernel_rfl) (by kernel_rfl)) (by kernel_rfl) (by kernel_rfl)
theorem turns_of_laid {W : World} (h : laidMetH Tryd.prog laidL W) : Turns W := by
  rw [MakeChecks.laidMetH_plain _ _ _ (by kernel_rfl)] at h
  have ht : Lib.TabIs Tryd.prog W "seedcorn/digest.turns" .i64 [7, 9, 13, 18] :=
    Lib.tabIs_of_head (rest := []) gTurns tTurns Tryd.underlying136 Tryd.underlying3 (by kernel_rfl) (by kernel_rfl) h
  unfold Lib.TabIs World.var? at ht
  rw [gTurns] at ht
  simp only [Option.bind_some] at ht
  split at ht
  · rename_i cs t fr hcs
    refine ⟨t, fr, hcs.trans ?_⟩
    simp only [Option.some.injEq] at ht
    rw [ht]
    rfl
  · cases ht
/-- The arguments read behind a call as before, where nothing old has turned. -/
theorem trodAll_below {H : Type} {enc : TypeId × Value → H} {P : Program} (hl : laidOutB P = true) {W W' : World} (hb : Below W.heap.size W W') (ts : List TypeId) : ∀ {vs : List Value} {ds : List (DataW H)} {ps : List MemPlace},
    (ts.all fun t => P.readableRec t && decide (t < P.types.size)) = true → DataW.TrodAll enc P W 0 (fun _ => true) true ts vs ds ps → (∀ x ∈ ps, x.block < W.heap.size) →
    DataW.TrodAll enc P W' 0 (fun b => decide (b < W.heap.size)) true ts vs ds ps := by
  induction ts with
  | nil =>
    intro vs ds ps _ h _
    match vs, ds, h with
    | [], [], h => exact h
  | cons t ts ih =>
    intro vs ds ps hok h hlt
    match vs, ds, h with
    | _ :: _, _ :: _, h =>
      obtain ⟨p, q, h1, h2, e⟩ := h
      simp only [List.all_cons, Bool.and_eq_true, decide_eq_true_eq] at hok
      exact ⟨p, q, Below.trod hl hok.1.1 hok.1.2 h1 hb (fun x hx => hlt x (by rw [e]; exact List.mem_append_left _ hx)), ih (by simpa using hok.2) h2 (fun x hx => hlt x (by rw [e]; exact List.mem_append_right _ hx)), e⟩
theorem post_law {H : Type} {enc : TypeId × Value → H} {fn : Func} {s : ChangeSpec} {W W' : World} {args : Array Value} {ds gs : List (DataW H)} {before p : List MemPlace}
    (hW : DataW.Whole enc Tryd.prog fn.params.toList s.vars false W args.toList ds gs before) (hvars : s.vars = []) (hr : fn.resultTypes = #[4])
    (hok : (fn.params.toList.all fun t => Tryd.prog.readableRec t && decide (t < Tryd.prog.types.size)) = true)
    (hA : DataW.TrodAll enc Tryd.prog W 0 (fun _ => true) true fn.params.toList args.toList ds p)
    (hp : before = p) (hfn : s.fn H (ds ++ gs) = { results := [.lit (.bool true)], args := ds }) (hb : Below W.heap.size W W') :
    s.post enc Tryd.prog fn false true false false W args (.bool true) W' := by
  subst hp
  have hlt : ∀ x ∈ before, x.block < W.heap.size := fun x hx => by simpa using hW.lt x hx
  refine ⟨ds, gs, before, [], before, [], hW, ?_, ?_, ?_, hb.frame _, fun h => by cases h⟩
  · rw [hfn, hr]; exact trodAll_mk1 (shut_bool Tryd.underlying4 true)
  · rw [hfn]; exact trodAll_below Tryd.laidOut hb _ hok hA hlt
  · rw [hfn, hvars]; rfl
end Go.Proofs.YtgpohndnkecbeaaDoor
