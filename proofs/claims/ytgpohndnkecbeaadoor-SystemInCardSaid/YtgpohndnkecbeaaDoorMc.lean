/- append of a block just laid, inside a fence. -/
import Derived.Test.YtgpohndnkecbeaaDoorMb
import Derived.OwnWalkIn
import Derived.RangeFuncBox
namespace Go.Proofs.Sc
open Go Go.RowKit
theorem apIn_new {F : Fence} {fu : Nat} {P : Program} {W : World} {ops : Array Oper} {rest : List Oper} {o : Oper} {a : Act} {Q : Exit → Act → World → Prop} (t e : TypeId) (z : Value) (size bytes : Nat)
    (hT : P.underlying t = some (.slice e)) (hI : (P.info? e).map (fun i => (i.zero, i.size, i.bytes)) = some (some z, size, bytes)) (hzs : z.cells.size = size) (hsz : 0 < size) (hb0 : 0 < bytes)
    (hgd : o.guard = none) (s x : Operand) (ho : o.op = .call { callee := .builtin .append, args := #[s, x], argTypes := #[t, t] })
    (base : Nat) (v : Value) (n : Nat) (xs : List Value) (hs : a.eval s = v) (hown : W.ownsRow base e size v n xs)
    (g m c : Nat) (cs : Array Value) (hx : a.eval x = .slice (some ⟨g, 0, none⟩) m c) (hg : Bx W g e cs) (hm : cs.size = m * size) (h1 : ∀ u ∈ cs.toList, u.oneCell' = true)
    (hb : (n + m) * bytes ≤ 140737488355328) (hbase : base ≤ W.heap.size)
    (h : ∀ v' w', w'.ownsRow base e size v' (n + m) (xs ++ cs.toList) → W.grownBy w' v.ownBlock → (v'.ownBlock = v.ownBlock ∨ v'.ownBlock = some W.heap.size) → wpListIn F fu P ops Q rest (a.put o.dst v') w') :
    wpListIn F fu P ops Q (o :: rest) a W := by
  obtain ⟨i0, hi, hz0, hz1, hz2⟩ := info_parts hI
  have hlen : n + m ≤ 140737488355328 := Nat.le_trans (Nat.le_mul_of_pos_right _ hb0) hb
  refine wpListIn_plain hgd fun K hK' => ?_
  obtain ⟨v', w', hr, h2, h3, _, h5⟩ := run_append_own_at (P := P) W base t o.type e i0 z size bytes hT hi hz0 hz1 hz2 hzs hsz v n xs hown ⟨g, 0, none⟩ m c cs.toList (by simpa using hm) (by
    intro j u hu
    rw [add_at, Nat.zero_add, hg.cell]
    simpa using hu) h1 (by simp only [maxLen]; omega) hb hbase
  unfold Oper.wpIn
  refine ⟨?_, ?_⟩
  · simp [Oper.about, ho, resolve, Target.leads, Sem.run_pure]
  · rw [Oper.semAt_plain F _ _ (by rw [ho]; intro c hc'; cases hc')]
    simp [execOp, ho, resolve, invoke, builtin, hs, hx, hr, Result.andThen]
    exact hK' _ _ (h v' w' h2 h3 h5)
end Go.Proofs.Sc
