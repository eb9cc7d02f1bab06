/- From the row's premises to the walk's: a store, a digest. -/
import Derived.Test.YtgpohndnkecbeaaDoorCc
import Derived.OpenShut
import Derived.Test.YtgpohndnkecbeaaDoorMd
namespace Go.Proofs.YtgpohndnkecbeaaDoor
open Go Go.ChangeShapes Go.WideShapes Go.ChangeAt Go.ChangeMaps Go.RowKit Go.Proofs.Sc
set_option maxRecDepth 100000 in
theorem open_list_cells {H : Type} {enc : TypeId × Value → H} {W : World} {fuel : Nat} {cs : List Value} {d : DataW H} {ps : List MemPlace}
    (hZ : (DataW.weightsEach Tryd.prog [22] [d]).all (· ≤ reachBytes) = true) (hf : DataW.trod enc Tryd.prog W 0 (fun _ => true) true fuel 22 cs = some (d, ps)) :
    ∃ A n c l, cs = [.slice A n c] ∧ n ≤ c ∧ (A = none → c = 0) ∧ n ≤ 8796093022208 ∧ Rs W A n 1 (vs l) ∧ ∀ s ∈ l, s.size ≤ 140737488355328 := by
  rcases open_strings Tryd.underlying22 Tryd.underlying9 cellsStr hf with ⟨hcs, _⟩ | ⟨a, n, c, ss, hcs, _, hnc, _, hsl, hx, hcell, _⟩
  · subst hcs
    exact ⟨none, 0, 0, [], rfl, Nat.le_refl _, fun _ => rfl, by omega, Rs.nil _ _ _, by simp⟩
  · subst hcs
    simp only [Prod.mk.injEq] at hx
    obtain ⟨rfl, _⟩ := hx
    have hsl' : ss.length = c := by simpa using hsl
    have h1 := sized_slice (j := 0) hZ rfl rfl Tryd.underlying22
    rw [bytesStr] at h1
    have hr : reachBytes ≤ 140737488355328 := by decide
    have h2 : n ≤ (strs (H := H) (ss.take n)).length := by simp [strs]; omega
    refine ⟨some a, n, c, ss.take n, rfl, hnc, (fun h => by cases h), by omega, ⟨by simp [vs]; omega, fun h0 => ?_⟩, fun s hs => ?_⟩
    · have hc0 := hcell 0 (by omega)
      have hspot : a.spot = none := by
        cases hsp : a.spot with
        | none => rfl
        | some k =>
          unfold World.cell? at hc0
          have : (a.add 0).spot.isSome = true := by simp [Addr.add, hsp]
          split at hc0
          · rw [if_pos this] at hc0; cases hc0
          · cases hc0
      obtain ⟨g, o, sp⟩ := a
      simp only at hspot
      subst hspot
      refine ⟨g, o, rfl, fun k u hu => ?_⟩
      have hk : k < n := by
        rcases Nat.lt_or_ge k n with h | h
        · exact h
        · rw [List.getElem?_eq_none (by simp [vs]; omega)] at hu; cases hu
      have hck := hcell k (by omega)
      rw [add_at] at hck
      rw [hck, ← hu]
      simp [vs, hk, List.getD_eq_getElem?_getD, List.getElem?_eq_getElem (show k < ss.length by omega)]
    · have hw := List.all_eq_true.1 hZ _ (DataW.weights_mem_each (j := 0) (t := 22) rfl rfl s.data.toList.length (by
        simp only [DataW.weights, Tryd.underlying22]
        exact List.mem_cons_of_mem _ (List.mem_append_left _ (weights_strs hs))))
      have hw' : s.data.toList.length ≤ reachBytes := by simpa using hw
      rw [size_list] at hw'
      omega
set_option maxRecDepth 100000 in
theorem open_store {H : Type} {enc : TypeId × Value → H} {W : World} {base : Nat} {j : Nat} {ts : List TypeId} {ds : List (DataW H)} {d : DataW H} {v : Value} {ps : List MemPlace}
    (hZ : (DataW.weightsEach Tryd.prog ts ds).all (· ≤ reachBytes) = true) (hts : ts[j]? = some 34) (hds : ds[j]? = some d)
    (hval : Value.okWide Tryd.prog W .any base 34 v) (h : DataW.Trod enc Tryd.prog W 0 (fun _ => true) true 34 v d ps) :
    ∃ A n c l, v = .agg #[.slice A n c] ∧ n ≤ c ∧ (A = none → c = 0) ∧ n ≤ 8796093022208 ∧ Rs W A n 1 (vs l) ∧ ∀ s ∈ l, s.size ≤ 140737488355328 := by
  obtain ⟨cs, rfl, hsz⟩ := okWide_struct Tryd.underlying34 hval
  obtain ⟨fuel, hf⟩ := h
  obtain ⟨xs, m, rfl, hx, hl, hlen, hfs⟩ := DataW.trod_struct Tryd.underlying34 hf
  have hc22 : Tryd.prog.cellsOf 22 = 1 := by kernel_rfl
  have hc34 : Tryd.prog.cellsOf 34 = 1 := by kernel_rfl
  rw [hc34] at hsz
  obtain ⟨x, rfl⟩ : ∃ x, xs = [x] := List.length_eq_one_iff.1 hlen
  obtain ⟨y, rfl⟩ : ∃ y, cs = #[y] := by
    obtain ⟨l⟩ := cs
    obtain ⟨y, rfl⟩ := List.length_eq_one_iff.1 (show l.length = 1 from hsz)
    exact ⟨y, rfl⟩
  simp only [Prod.mk.injEq, List.map_cons, List.map_nil] at hx
  obtain ⟨rfl, -⟩ := hx
  obtain ⟨dx, px⟩ := x
  have h0 : DataW.trod enc Tryd.prog W 0 (fun _ => true) true m 22 ([y].take (Tryd.prog.cellsOf 22)) = some (dx, px) := hfs 0 _ rfl
  rw [hc22] at h0
  have hZ1 : (DataW.weightsEach Tryd.prog [22] [dx]).all (· ≤ reachBytes) = true := by
    rw [List.all_eq_true]
    intro n hn
    refine List.all_eq_true.1 hZ _ (DataW.weights_mem_each hts hds n ?_)
    simp only [DataW.weights, Tryd.underlying34]
    exact hn
  obtain ⟨A, n, c, l, he, hr⟩ := open_list_cells hZ1 h0
  simp only [List.take_succ_cons, List.take_zero, List.cons.injEq, and_true] at he
  subst he
  exact ⟨A, n, c, l, rfl, hr⟩
set_option maxRecDepth 100000 in
theorem okWide_row {t e : TypeId} {n : Nat} {W : World} {base : Nat} {v : Value} (ht : Tryd.prog.underlying t = some (.array n e)) (h : Value.okWide Tryd.prog W .any base t v) : ∃ cs, v = .agg cs ∧ cs.size = Tryd.prog.cellsOf t := by
  simp only [Value.okWide, ht] at h
  obtain ⟨cs, h1, h2, _⟩ := h
  exact ⟨cs, h1, h2⟩
set_option maxRecDepth 100000 in
theorem open_digest {H : Type} {enc : TypeId × Value → H} {W : World} {base : Nat} {d : DataW H} {v : Value} {ps : List MemPlace}
    (hval : Value.okWide Tryd.prog W .any base 39 v) (h : DataW.Trod enc Tryd.prog W 0 (fun _ => true) true 39 v d ps) :
    ∃ d0 d1 d2 d3 : Nat, v = .agg #[.int .u32 d0, .int .u32 d1, .int .u32 d2, .int .u32 d3] := by
  obtain ⟨cs, rfl, hsz⟩ := okWide_row Tryd.underlying39 hval
  obtain ⟨fuel, hf⟩ := h
  obtain ⟨xs, m, rfl, hx, hl, hlen, hfs⟩ := DataW.trod_array Tryd.underlying39 hf
  have hc37 : Tryd.prog.cellsOf 37 = 1 := by kernel_rfl
  have hc39 : Tryd.prog.cellsOf 39 = 4 := by kernel_rfl
  rw [hc39] at hsz
  obtain ⟨l⟩ := cs
  obtain ⟨a, b, c, e, rfl⟩ : ∃ a b c e, l = [a, b, c, e] := by
    match l, hsz with
    | [a, b, c, e], _ => exact ⟨a, b, c, e, rfl⟩
  have get : ∀ (i : Nat) (y : Value), i < 4 → [a, b, c, e][i]? = some y → ∃ n : Nat, y = .int .u32 n := by
    intro i y hi hy
    have hs := hfs i hi
    have hcs : (Value.agg (⟨[a, b, c, e]⟩ : Array Value)).cells.toList = [a, b, c, e] := rfl
    rw [hcs, hc37, Nat.mul_one] at hs
    have ht : ([a, b, c, e].drop i).take 1 = [y] := by
      have : i = 0 ∨ i = 1 ∨ i = 2 ∨ i = 3 := by omega
      rcases this with rfl | rfl | rfl | rfl <;> simpa using hy
    rw [ht] at hs
    obtain ⟨x, hx⟩ : ∃ x, xs[i]? = some x := ⟨xs[i]'(by omega), List.getElem?_eq_getElem _⟩
    rw [hx] at hs
    obtain ⟨n, h1, -, hw⟩ := DataW.trod_int Tryd.underlying37 hs
    have := (Lit.wf_int_iff .u32 n).1 hw
    have h0 : IntKind.u32.min = 0 := rfl
    refine ⟨n.toNat, ?_⟩
    simp at h1
    rw [h1]
    congr 1
    omega
  obtain ⟨d0, rfl⟩ := get 0 a (by omega) rfl
  obtain ⟨d1, rfl⟩ := get 1 b (by omega) rfl
  obtain ⟨d2, rfl⟩ := get 2 c (by omega) rfl
  obtain ⟨d3, rfl⟩ := get 3 e (by omega) rfl
  exact ⟨d0, d1, d2, d3, rfl⟩
end Go.Proofs.YtgpohndnkecbeaaDoor
