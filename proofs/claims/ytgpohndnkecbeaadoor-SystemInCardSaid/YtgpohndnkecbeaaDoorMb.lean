/- Words on slices: what a slice reads as; append of a block just laid; a row of bytes as a string. -/
import Derived.Test.YtgpohndnkecbeaaDoorMa
import Derived.Maps.AppendAt
import Derived.Laws.BytesArg
import Derived.Laws.OwnMore
import Derived.Deep.AppendLies
import Derived.Lib.UnsafeStr
import Derived.Lib.Hide
import Derived.RegionTactic
import Derived.OwnWalk
namespace Go.Proofs.Sc
open Go Go.RowKit

/-- Words, strings, digests as cells' values. -/
def vw (l : List Nat) : List Value := l.map fun x : Nat => Value.int .u32 (x : Int)
def vs (l : List ByteArray) : List Value := l.map fun x => Value.string x
theorem wds_toList (l : List Nat) : (wds l).toList = vw l := by simp [wds, vw]
theorem vw_get (l : List Nat) (i : Nat) (h : i < l.length) : (vw l)[i]? = some (.int .u32 (gw l i : Nat)) := by
  simp [vw, gw, List.getElem?_eq_getElem h, List.getD_eq_getElem?_getD]
def gs (l : List ByteArray) (i : Nat) : ByteArray := l.getD i ByteArray.empty
theorem vs_get (l : List ByteArray) (i : Nat) (h : i < l.length) : (vs l)[i]? = some (.string (gs l i)) := by
  simp [vs, gs, List.getElem?_eq_getElem h, List.getD_eq_getElem?_getD]
theorem vw_len (l : List Nat) : (vw l).length = l.length := by simp [vw]
theorem vs_len (l : List ByteArray) : (vs l).length = l.length := by simp [vs]
theorem vw_app (l m : List Nat) : vw (l ++ m) = vw l ++ vw m := by simp [vw]
theorem vs_app (l m : List ByteArray) : vs (l ++ m) = vs l ++ vs m := by simp [vs]
theorem vw_one (l : List Nat) : ∀ u ∈ vw l, u.oneCell' = true := by
  intro u hu
  obtain ⟨x, _, rfl⟩ := List.mem_map.1 hu
  rfl
theorem vs_one (l : List ByteArray) : ∀ u ∈ vs l, u.oneCell' = true := by
  intro u hu
  obtain ⟨x, _, rfl⟩ := List.mem_map.1 hu
  rfl

theorem add_at (g o j : Nat) : (⟨g, o, none⟩ : Addr).add j = ⟨g, o + j, none⟩ := by unfold Addr.add; split <;> simp_all

/-- The slice value '.slice A n c' reads as xs (n elements of 'size' cells each). -/
def Rs (w : World) (A : Option Addr) (n size : Nat) (xs : List Value) : Prop :=
  xs.length = n * size ∧ (0 < n → ∃ g o, A = some ⟨g, o, none⟩ ∧ ∀ j u, xs[j]? = some u → w.cell? ⟨g, o + j, none⟩ = some u)
section
variable {w w' : World} {n size : Nat} {A : Option Addr} {xs : List Value}
theorem Rs.below (h : Rs w A n size xs) (hb : Below w.heap.size w w') : Rs w' A n size xs :=
  ⟨h.1, fun hn => by
    obtain ⟨g, o, e, hc⟩ := h.2 hn
    exact ⟨g, o, e, fun j u hu => (hb.cell (World.block_lt_of_cell? w _ (hc j u hu))).trans (hc j u hu)⟩⟩
theorem Rs.drew (h : Rs w A n size xs) : Rs w.drew A n size xs := h
theorem Rs.nil (w : World) (A : Option Addr) (size : Nat) : Rs w A 0 size [] := ⟨by simp, fun h => absurd h (by omega)⟩
theorem Rs.alloc (h : Rs w A n size xs) (o : Obj) : Rs (w.alloc o) A n size xs := h.below ((Below.refl _ _).alloc (Nat.le_refl _) o)
theorem Rs.at_ (h : Rs w A n 1 xs) {k : Nat} (hk : k < n) : ∃ g o u, A = some ⟨g, o, none⟩ ∧ xs[k]? = some u ∧ w.cell? ⟨g, o + k, none⟩ = some u := by
  obtain ⟨g, o, e, hc⟩ := h.2 (by omega)
  have hl : k < xs.length := by have := h.1; omega
  exact ⟨g, o, xs[k], e, List.getElem?_eq_getElem hl, hc k _ (List.getElem?_eq_getElem hl)⟩
theorem Rs.of_own {base : Nat} {e : TypeId} {c : Nat} (h : w.ownsRow base e size (.slice A n c) n xs) : Rs w A n size xs := by
  refine ⟨h.1, fun hn => ?_⟩
  obtain ⟨g, cap, hv, _, hlt⟩ := h.form hn
  have hA : A = some ⟨g, 0, none⟩ := by injection hv
  subst hA
  exact ⟨g, 0, rfl, fun j u hu => by have := h.cells (g := g) rfl j u hu; rwa [add_at] at this⟩
theorem Rs.of_bx {g : Nat} {t : TypeId} {cs : Array Value} (h : Bx w g t cs) (hs : cs.size = n * size) : Rs w (some ⟨g, 0, none⟩) n size cs.toList :=
  ⟨by simpa using hs, fun _ => ⟨g, 0, rfl, fun j u hu => by rw [Nat.zero_add, h.cell]; simpa using hu⟩⟩
/-- A cut from the left: '.slice (if cap = k then A else A + k) (n - k) ..'. -/
theorem Rs.drop (h : Rs w A n size xs) {k : Nat} (hk : k < n) : ∃ g o, A = some ⟨g, o, none⟩ ∧ Rs w (some ⟨g, o + k * size, none⟩) (n - k) size (xs.drop (k * size)) := by
  obtain ⟨g, o, e, hc⟩ := h.2 (by omega)
  refine ⟨g, o, e, by rw [List.length_drop, h.1, Nat.sub_mul], fun _ => ⟨g, o + k * size, rfl, fun j u hu => ?_⟩⟩
  rw [List.getElem?_drop] at hu
  rw [Nat.add_assoc]
  exact hc _ u hu
theorem Rs.take (h : Rs w A n size xs) {k : Nat} (hk : k ≤ n) : Rs w A k size (xs.take (k * size)) := by
  refine ⟨by rw [List.length_take, h.1]; exact Nat.min_eq_left (Nat.mul_le_mul_right _ hk), fun hn => ?_⟩
  obtain ⟨g, o, e, hc⟩ := h.2 (by omega)
  refine ⟨g, o, e, fun j u hu => hc j u ?_⟩
  rw [List.getElem?_take] at hu
  split at hu
  · exact hu
  · cases hu
end
theorem Rs.word {w : World} {n : Nat} {A : Option Addr} {l : List Nat} (h : Rs w A n 1 (vw l)) {k : Nat} (hk : k < n) : ∃ g o, A = some ⟨g, o, none⟩ ∧ w.cell? ⟨g, o + k, none⟩ = some (.int .u32 (gw l k : Nat)) := by
  obtain ⟨g, o, u, e, hu, hc⟩ := h.at_ hk
  rw [vw_get l k (by have := h.1; rw [vw_len] at this; omega)] at hu
  injection hu with hu
  subst hu
  exact ⟨g, o, e, hc⟩
theorem Rs.str {w : World} {n : Nat} {A : Option Addr} {l : List ByteArray} (h : Rs w A n 1 (vs l)) {k : Nat} (hk : k < n) : ∃ g o, A = some ⟨g, o, none⟩ ∧ w.cell? ⟨g, o + k, none⟩ = some (.string (gs l k)) := by
  obtain ⟨g, o, u, e, hu, hc⟩ := h.at_ hk
  rw [vs_get l k (by have := h.1; rw [vs_len] at this; omega)] at hu
  injection hu with hu
  subst hu
  exact ⟨g, o, e, hc⟩
theorem Rs.wlen {w : World} {n : Nat} {A : Option Addr} {l : List Nat} (h : Rs w A n 1 (vw l)) : l.length = n := by have := h.1; rw [vw_len] at this; omega
theorem Rs.slen {w : World} {n : Nat} {A : Option Addr} {l : List ByteArray} (h : Rs w A n 1 (vs l)) : l.length = n := by have := h.1; rw [vs_len] at this; omega

theorem own_below {w w1 : World} {base : Nat} {e : TypeId} {size n : Nat} {v : Value} {xs : List Value} (h : w.ownsRow base e size v n xs) (hb : Below w.heap.size w w1) : w1.ownsRow base e size v n xs :=
  h.kept ⟨hb.os, hb.tape, hb.output, hb.size, fun i hi _ => hb.block i hi⟩ (row := none) (by cases v.ownBlock <;> simp)
theorem own_base {w : World} {base : Nat} {e : TypeId} {size n : Nat} {v : Value} {xs : List Value} (h : w.ownsRow base e size v n xs) (k : Nat) (hk : v.ownBlock = some k) : base ≤ k := (h.lt k hk).1
/-- What is owned is a slice. -/
theorem own_slice {w : World} {base n : Nat} {e : TypeId} {size : Nat} {v : Value} {xs : List Value} (h : w.ownsRow base e size v n xs) : ∃ A c, v = .slice A n c := by
  rcases h.2 with ⟨rfl, rfl⟩ | ⟨g, cap, cur, rfl, _⟩
  · exact ⟨none, 0, rfl⟩
  · exact ⟨_, cap, rfl⟩

theorem own_slice_cap {w : World} {base n : Nat} {e : TypeId} {size : Nat} {v : Value} {xs : List Value} (h : w.ownsRow base e size v n xs) : ∃ A c, v = .slice A n c ∧ n ≤ c ∧ c ≤ 9223372036854775807 := by
  rcases h.2 with ⟨rfl, rfl⟩ | ⟨g, cap, cur, rfl, _, _, h1, h2, _⟩
  · exact ⟨none, 0, rfl, by omega, by omega⟩
  · exact ⟨_, cap, rfl, h1, by unfold maxLen at h2; omega⟩
/-- append of a block that was just laid. -/
theorem wp_ap_new {P : Program} {W : World} {o : Oper} {a : Act} {K : Act → World → Prop} {Q : Exit → Act → World → Prop} (t e : TypeId) (z : Value) (size bytes : Nat)
    (hT : P.underlying t = some (.slice e)) (hI : (P.info? e).map (fun i => (i.zero, i.size, i.bytes)) = some (some z, size, bytes)) (hzs : z.cells.size = size) (hsz : 0 < size) (hb0 : 0 < bytes)
    (s x : Operand) (ho : o.op = .call { callee := .builtin .append, args := #[s, x], argTypes := #[t, t] })
    (base : Nat) (v : Value) (n : Nat) (xs : List Value) (hs : a.eval s = v) (hown : W.ownsRow base e size v n xs)
    (g m c : Nat) (cs : Array Value) (hx : a.eval x = .slice (some ⟨g, 0, none⟩) m c) (hg : Bx W g e cs) (hm : cs.size = m * size) (h1 : ∀ u ∈ cs.toList, u.oneCell' = true)
    (hb : (n + m) * bytes ≤ 140737488355328) (hbase : base ≤ W.heap.size)
    (h : ∀ v' w', w'.ownsRow base e size v' (n + m) (xs ++ cs.toList) → W.grownBy w' v.ownBlock → (v'.ownBlock = v.ownBlock ∨ v'.ownBlock = some W.heap.size) → K (a.put o.dst v') w') :
    o.wp P a W K Q := by
  obtain ⟨i0, hi, hz0, hz1, hz2⟩ := info_parts hI
  have hlen : n + m ≤ 140737488355328 := Nat.le_trans (Nat.le_mul_of_pos_right _ hb0) hb
  obtain ⟨v', w', hr, h2, h3, _, h5⟩ := run_append_own_at (P := P) W base t o.type e i0 z size bytes hT hi hz0 hz1 hz2 hzs hsz v n xs hown ⟨g, 0, none⟩ m c cs.toList (by simpa using hm) (by
    intro j u hu
    rw [add_at, Nat.zero_add, hg.cell]
    simpa using hu) h1 (by simp only [maxLen]; omega) hb hbase
  unfold Oper.wp execOp
  simp only [ho, resolve, invoke, builtin, Sem.run_bind, Sem.run_pure, Result.andThen_ok, List.map_toArray, List.map_cons, List.map_nil, hs, hx, hr]
  exact h v' w' h2 h3 h5
theorem ap_new {P : Program} {W : World} {ops : Array Oper} {rest : List Oper} {o : Oper} {a : Act} {Q : Exit → Act → World → Prop} (t e : TypeId) (z : Value) (size bytes : Nat)
    (hT : P.underlying t = some (.slice e)) (hI : (P.info? e).map (fun i => (i.zero, i.size, i.bytes)) = some (some z, size, bytes)) (hzs : z.cells.size = size) (hsz : 0 < size) (hb0 : 0 < bytes)
    (hgd : o.guard = none) (s x : Operand) (ho : o.op = .call { callee := .builtin .append, args := #[s, x], argTypes := #[t, t] })
    (base : Nat) (v : Value) (n : Nat) (xs : List Value) (hs : a.eval s = v) (hown : W.ownsRow base e size v n xs)
    (g m c : Nat) (cs : Array Value) (hx : a.eval x = .slice (some ⟨g, 0, none⟩) m c) (hg : Bx W g e cs) (hm : cs.size = m * size) (h1 : ∀ u ∈ cs.toList, u.oneCell' = true)
    (hb : (n + m) * bytes ≤ 140737488355328) (hbase : base ≤ W.heap.size)
    (h : ∀ v' w', w'.ownsRow base e size v' (n + m) (xs ++ cs.toList) → W.grownBy w' v.ownBlock → (v'.ownBlock = v.ownBlock ∨ v'.ownBlock = some W.heap.size) → wpList P ops Q rest (a.put o.dst v') w') :
    wpList P ops Q (o :: rest) a W :=
  wpList_plain hgd fun _ hK => wp_ap_new t e z size bytes hT hI hzs hsz hb0 s x ho base v n xs hs hown g m c cs hx hg hm h1 hb hbase fun v' w' h2 h3 h5 => hK _ _ (h v' w' h2 h3 h5)
theorem step_ap_new {P : Program} {W : World} {ops : Array Oper} {o : Oper} {a : Act} {K : Act → World → Prop} {Q : Exit → Act → World → Prop} {E : Prop} (t e : TypeId) (z : Value) (size bytes : Nat)
    (hT : P.underlying t = some (.slice e)) (hI : (P.info? e).map (fun i => (i.zero, i.size, i.bytes)) = some (some z, size, bytes)) (hzs : z.cells.size = size) (hsz : 0 < size) (hb0 : 0 < bytes)
    (hgd : o.guard = none) (s x : Operand) (ho : o.op = .call { callee := .builtin .append, args := #[s, x], argTypes := #[t, t] })
    (base : Nat) (v : Value) (n : Nat) (xs : List Value) (hs : a.eval s = v) (hown : W.ownsRow base e size v n xs)
    (g m c : Nat) (cs : Array Value) (hx : a.eval x = .slice (some ⟨g, 0, none⟩) m c) (hg : Bx W g e cs) (hm : cs.size = m * size) (h1 : ∀ u ∈ cs.toList, u.oneCell' = true)
    (hb : (n + m) * bytes ≤ 140737488355328) (hbase : base ≤ W.heap.size)
    (h : ∀ v' w', w'.ownsRow base e size v' (n + m) (xs ++ cs.toList) → W.grownBy w' v.ownBlock → (v'.ownBlock = v.ownBlock ∨ v'.ownBlock = some W.heap.size) → K (a.put o.dst v') w') :
    if Region.wanted o (yielded ops a.tmps) = true then Oper.wp P o a W K Q else E := by
  have hw : Region.wanted o (yielded ops a.tmps) = true := by simp [Region.wanted, hgd]
  rw [if_pos hw]
  exact wp_ap_new t e z size bytes hT hI hzs hsz hb0 s x ho base v n xs hs hown g m c cs hx hg hm h1 hb hbase h

/-- make([]T, 0, n). -/
theorem mk_own {P : Program} {w : World} {ops : Array Oper} {rest : List Oper} {o : Oper} {a : Act} {Q : Exit → Act → World → Prop} (t e : TypeId) (z : Value) (size bytes : Nat)
    (hT : P.underlying t = some (.slice e)) (hI : (P.info? e).map (fun i => (i.zero, i.size, i.bytes)) = some (some z, size, bytes)) (hb0 : 0 < bytes)
    (hg : o.guard = none) (l c : Operand) (hop : o.op = Op.makeSlice t l c) (base : Nat) (kl kc : IntKind) (C : Int) (n : Nat) (hl : a.eval l = .int kl 0) (hc : a.eval c = .int kc C) (hC : C = (n : Int))
    (hb : n * bytes ≤ 281474976710656) (hbase : base ≤ w.heap.size)
    (hK : ∀ w', w'.ownsRow base e size (.slice (some ⟨w.heap.size, 0, none⟩) 0 n) 0 [] → w.grownBy w' none → wpList P ops Q rest (a.put o.dst (.slice (some ⟨w.heap.size, 0, none⟩) 0 n)) w') :
    wpList P ops Q (o :: rest) a w := by
  obtain ⟨i0, hi, hz0, hz1, hz2⟩ := info_parts hI
  have : n ≤ n * bytes := Nat.le_mul_of_pos_right _ hb0
  exact wpList_make_own w hg l c t hop base e i0 z size hT hi hz0 hz1 kl kc C n hl hc hC (by rw [hz2, Nat.mul_comm]; exact hb) (by unfold maxLen; omega) hbase hK
/-- append of what another slice holds ('append(x, y...)'), nil and empty let in. -/
theorem run_append_of_nil {P : Program} (w : World) (base : Nat) (t ty e : TypeId) (i : TypeInfo) (size : Nat) (ht : P.underlying t = some (.slice e)) (hi : P.info? e = some i)
    (v : Value) (n : Nat) (xs : List Value) (hown : w.ownsRow base e size v n xs) (c : Nat) : (Builtin.append_ #[t, t] ty #[v, .slice none 0 c]).run P w = .ok v w := by
  rcases hown.2 with ⟨rfl, rfl⟩ | ⟨g, cap, cur, rfl, _, _, hnc, _⟩
  · simp [Builtin.append_, run_underlying ht, sizeOf, typeInfo, hi, Builtin.lenOf, Builtin.firstCells]
  · simp [Builtin.append_, run_underlying ht, sizeOf, typeInfo, hi, Builtin.lenOf, Builtin.firstCells, hnc, storeCells]
theorem ap_rs {P : Program} {W : World} {ops : Array Oper} {rest : List Oper} {o : Oper} {a : Act} {Q : Exit → Act → World → Prop} (t e : TypeId) (z : Value) (size bytes : Nat)
    (hT : P.underlying t = some (.slice e)) (hI : (P.info? e).map (fun i => (i.zero, i.size, i.bytes)) = some (some z, size, bytes)) (hzs : z.cells.size = size) (hsz : 0 < size) (hb0 : 0 < bytes)
    (hgd : o.guard = none) (s x : Operand) (ho : o.op = .call { callee := .builtin .append, args := #[s, x], argTypes := #[t, t] })
    (base : Nat) (v : Value) (n : Nat) (xs : List Value) (hs : a.eval s = v) (hown : W.ownsRow base e size v n xs)
    (A : Option Addr) (m c : Nat) (ys : List Value) (hx : a.eval x = .slice A m c) (hr : Rs W A m size ys) (h1 : ∀ u ∈ ys, u.oneCell' = true)
    (hb : (n + m) * bytes ≤ 140737488355328) (hbase : base ≤ W.heap.size)
    (h : ∀ v' w', w'.ownsRow base e size v' (n + m) (xs ++ ys) → W.grownBy w' v.ownBlock → (v'.ownBlock = v.ownBlock ∨ v'.ownBlock = some W.heap.size) → wpList P ops Q rest (a.put o.dst v') w') :
    wpList P ops Q (o :: rest) a W := by
  obtain ⟨i0, hi, hz0, hz1, hz2⟩ := info_parts hI
  have hlen : n + m ≤ 140737488355328 := Nat.le_trans (Nat.le_mul_of_pos_right _ hb0) hb
  rcases A with _ | ad
  · have hm : m = 0 := by
      rcases Nat.eq_zero_or_pos m with h0 | h0
      · exact h0
      · obtain ⟨g, o, h, _⟩ := hr.2 h0
        cases h
    subst hm
    have hn : ys = [] := List.eq_nil_of_length_eq_zero (by simpa using hr.1)
    subst hn
    refine wpList_plain hgd fun K hK => ?_
    unfold Oper.wp execOp
    simp only [ho, resolve, invoke, builtin, Sem.run_bind, Sem.run_pure, Result.andThen_ok, List.map_toArray, List.map_cons, List.map_nil, hs, hx, run_append_of_nil W base t o.type e i0 size hT hi v n xs hown c]
    exact hK _ _ (h v W (by simpa using hown) (World.grownBy.refl W _) (.inl rfl))
  · refine wpList_append_own_at W hgd s x t ho base e i0 z size bytes hT hi hz0 hz1 hz2 hzs hsz v n xs hs hown ad m c ys hx hr.1 ?_ h1 (by simp only [maxLen]; omega) hb hbase
      (fun v' w' h2 h3 _ h5 => h v' w' h2 h3 h5)
    intro j u hu
    rcases Nat.eq_zero_or_pos m with h0 | h0
    · subst h0
      have hn : ys = [] := List.eq_nil_of_length_eq_zero (by simpa using hr.1)
      subst hn
      simp at hu
    · obtain ⟨g, o, h, hc⟩ := hr.2 h0
      injection h with h
      subst h
      rw [add_at]
      exact hc j u hu

theorem byteCells_one (l : List UInt8) : ∀ u ∈ Lib.byteCells l, u.oneCell' = true := by
  intro u hu
  obtain ⟨x, _, rfl⟩ := List.mem_map.1 hu
  rfl
theorem strOfNums_bytes (l : List UInt8) : strOfNums (l.map fun b => (b.toNat : Int)) = ⟨l.toArray⟩ := by
  unfold strOfNums
  congr 1
  rw [List.map_map]
  congr 1
  conv => rhs; rw [← List.map_id l]
  apply List.map_congr_left
  intro b _
  simp
/-- string(v) of a row of bytes. -/
theorem conv_own {P : Program} {w : World} {base n : Nat} {e' src dst e : TypeId} {v : Value} {l : List UInt8} (hs : P.underlying src = some (.slice e)) (he : P.underlying e = some (.int .u8)) (hd : P.underlying dst = some .string)
    (h : w.ownsRow base e' 1 v n (Lib.byteCells l)) : (convert src dst v).run P w = .ok (.string ⟨l.toArray⟩) w := by
  have hl : l.length = n := by have := h.1; rw [Lib.byteCells_length] at this; omega
  rcases h.2 with ⟨rfl, rfl⟩ | ⟨g, cap, cur, rfl, _⟩
  · obtain rfl : l = [] := List.eq_nil_of_length_eq_zero hl
    exact run_convert_bytes_nil w src e hs he 0 0 dst hd
  · have := run_convert_bytes_arg (P := P) w src e hs he g 0 n cap (l.map fun b => (b.toNat : Int)) (by simpa using hl) (fun i hi => by
      have hc := h.cells (g := g) rfl i (.int .u8 ((l.map fun b => (b.toNat : Int)).getD i 0)) (by
        simp [Lib.byteCells, List.getElem?_eq_getElem (show i < l.length by omega), List.getD_eq_getElem?_getD])
      rwa [add_at] at hc) dst hd
    rw [strOfNums_bytes] at this
    exact this
/-- A string's length, off its value. -/
def strLen : Value → Nat
  | .string s => s.size
  | _ => 0
theorem strLen_string (s : ByteArray) : strLen (.string s) = s.size := rfl
theorem size_list (s : ByteArray) : s.data.toList.length = s.size := Array.length_toList
theorem get_list (s : ByteArray) (i : Nat) (h : i < s.size) : s.data.toList[i]? = some s[i] := by
  rw [List.getElem?_eq_getElem (by rw [size_list]; exact h)]; rfl
theorem extract_list (s : ByteArray) (a b : Nat) : (s.extract a b).data.toList = (s.data.toList.take b).drop a := by
  rw [ByteArray.data_extract, Array.toList_extract, List.extract_eq_take_drop, List.take_drop]
  by_cases h : a ≤ b
  · rw [Nat.add_sub_cancel' h]
  · rw [Nat.sub_eq_zero_of_le (by omega), Nat.add_zero, List.drop_eq_nil_of_le (by rw [List.length_take]; omega), List.drop_eq_nil_of_le (by rw [List.length_take]; omega)]
theorem append_list (s t : ByteArray) : (s ++ t).data.toList = s.data.toList ++ t.data.toList := by
  rw [ByteArray.data_append, Array.toList_append]
theorem mk_list (l : List UInt8) : (⟨l.toArray⟩ : ByteArray).data.toList = l := by simp
theorem ba_ext {s t : ByteArray} (h : s.data.toList = t.data.toList) : s = t := by
  cases s; cases t; simp only [ByteArray.mk.injEq]; exact Array.toList_inj.1 h
theorem ba_mk {s : ByteArray} {l : List UInt8} (h : s.data.toList = l) : s = ⟨l.toArray⟩ := ba_ext (by rw [h])
theorem ba_empty {s : ByteArray} (h : s.size = 0) : s = ByteArray.empty := by
  have h2 : s.data.toList = [] := List.eq_nil_of_length_eq_zero (by rw [size_list]; exact h)
  exact ba_ext (by rw [h2]; rfl)
theorem mk_size (l : List UInt8) : (⟨l.toArray⟩ : ByteArray).size = l.length := by rw [← size_list, mk_list]
end Go.Proofs.Sc
