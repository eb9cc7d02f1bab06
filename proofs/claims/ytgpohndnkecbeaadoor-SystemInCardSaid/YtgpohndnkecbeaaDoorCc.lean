/- From the row's premises to the walk's: a list of strings. -/
import Derived.Test.YtgpohndnkecbeaaDoorCa
import Derived.Test.YtgpohndnkecbeaaDoorMb
import Derived.SliceStrings
namespace Go.Proofs.YtgpohndnkecbeaaDoor
open Go Go.ChangeShapes Go.WideShapes Go.ChangeAt Go.ChangeMaps Go.RowKit Go.Proofs.Sc
theorem bytesStr : Tryd.prog.bytesOf 9 = 16 := by kernel_rfl
theorem cellsStr : Tryd.prog.cellsOf 9 = 1 := by kernel_rfl
theorem weights_strs {H : Type} {P : Program} {e : TypeId} {s : ByteArray} {l : List ByteArray} (h : s ∈ l) : s.data.toList.length ∈ DataW.weightsAll P e (strs (H := H) l) := by
  induction l with
  | nil => cases h
  | cons x l ih =>
    have e1 : DataW.weightsAll P e (strs (H := H) (x :: l)) = [x.data.toList.length] ++ DataW.weightsAll P e (strs (H := H) l) := by
      simp [strs, DataW.weightsAll, DataW.weights]
    rw [e1]
    rcases List.mem_cons.1 h with rfl | h
    · exact List.mem_append_left _ (List.mem_singleton.2 rfl)
    · exact List.mem_append_right _ (ih h)
set_option maxRecDepth 100000 in
theorem open_list {H : Type} {enc : TypeId × Value → H} {W : World} {base : Nat} {j : Nat} {ts : List TypeId} {ds : List (DataW H)} {d : DataW H} {v : Value} {ps : List MemPlace}
    (hZ : (DataW.weightsEach Tryd.prog ts ds).all (· ≤ reachBytes) = true) (hts : ts[j]? = some 22) (hds : ds[j]? = some d)
    (hval : Value.okWide Tryd.prog W .any base 22 v) (h : DataW.Trod enc Tryd.prog W 0 (fun _ => true) true 22 v d ps) :
    ∃ A n c l, v = .slice A n c ∧ n ≤ c ∧ (A = none → c = 0) ∧ n ≤ 8796093022208 ∧ Rs W A n 1 (vs l) ∧ ∀ s ∈ l, s.size ≤ 140737488355328 := by
  obtain ⟨a0, len, cap, rfl⟩ := okWide_slice Tryd.underlying22 hval
  obtain ⟨fuel, hf⟩ := h
  rcases open_strings Tryd.underlying22 Tryd.underlying9 cellsStr hf with ⟨hcs, _⟩ | ⟨a, n, c, ss, hcs, _, hnc, _, hsl, hx, hcell, _⟩
  · simp [Value.cells] at hcs
    obtain ⟨rfl, rfl, rfl⟩ := hcs
    exact ⟨none, 0, 0, [], rfl, Nat.le_refl _, fun _ => rfl, by omega, Rs.nil _ _ _, by simp⟩
  · simp [Value.cells] at hcs
    obtain ⟨ea, en, ec⟩ := hcs
    subst en; subst ec
    obtain rfl := ea
    simp only [Prod.mk.injEq] at hx
    obtain ⟨rfl, _⟩ := hx
    have hsl' : ss.length = cap := by simpa using hsl
    have h1 := sized_slice hZ hts hds Tryd.underlying22
    rw [bytesStr] at h1
    have hr : reachBytes ≤ 140737488355328 := by decide
    have h2 : len ≤ (strs (H := H) (ss.take len)).length := by simp [strs]; omega
    refine ⟨some a, len, cap, ss.take len, rfl, hnc, (fun h => by cases h), by omega, ⟨by simp [vs]; omega, fun h0 => ?_⟩, fun s hs => ?_⟩
    · have hc0 := hcell 0 (by omega)
      have hspot : a.spot = none := by
        cases hsp : a.spot with
        | none => rfl
        | some k =>
          unfold World.cell? at hc0
          have : (a.add 0).spot.isSome = true := by simp [Addr.add, hsp]
          split at hc0
          · rw [if_pos this] at hc0; cases hc0
          · cases hc0
      obtain ⟨g, o, sp⟩ := a
      simp only at hspot
      subst hspot
      refine ⟨g, o, rfl, fun k u hu => ?_⟩
      have hk : k < len := by
        rcases Nat.lt_or_ge k len with h | h
        · exact h
        · rw [List.getElem?_eq_none (by simp [vs]; omega)] at hu; cases hu
      have hck := hcell k (by omega)
      rw [add_at] at hck
      rw [hck, ← hu]
      simp [vs, hk, List.getD_eq_getElem?_getD, List.getElem?_eq_getElem (show k < ss.length by omega)]
    · have hw := List.all_eq_true.1 hZ _ (DataW.weights_mem_each hts hds s.data.toList.length (by
        simp only [DataW.weights, Tryd.underlying22]
        exact List.mem_cons_of_mem _ (List.mem_append_left _ (weights_strs hs))))
      have hw' : s.data.toList.length ≤ reachBytes := by simpa using hw
      rw [size_list] at hw'
      omega
end Go.Proofs.YtgpohndnkecbeaaDoor
