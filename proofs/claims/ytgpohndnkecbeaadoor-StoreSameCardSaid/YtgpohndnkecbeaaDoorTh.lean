/- Contracts: ref04.Same, ref04.Clash. -/
import Derived.Test.YtgpohndnkecbeaaDoorLb
import Derived.Test.YtgpohndnkecbeaaDoorPj
import Derived.Test.YtgpohndnkecbeaaDoorTg
namespace Go.Proofs.YtgpohndnkecbeaaDoor
open Go Go.RowKit Go.Proofs.Sc
theorem dl_ext {l k : Dl} (hl : l.length = k.length) (h : ∀ i, i < l.length → l.getD i [] = k.getD i []) : l = k := by
  refine List.ext_getElem hl fun i h1 h2 => ?_
  have := h i h1
  simpa [List.getD_eq_getElem?_getD, h1, h2] using this
def DSameRel (w : World) (n : Nat) (l k : Dl) (i : Value) (wr : World) : Prop :=
  ∃ j : Nat, j ≤ n ∧ i = .int .i64 j ∧ (∀ t, t < j → l.getD t [] = k.getD t []) ∧ Below w.heap.size w wr
set_option maxRecDepth 100000 in
set_option maxHeartbeats 1000000 in
theorem rdsame_any (A B : Option Addr) (n c d : Nat) (l k : Dl) (w : World) (hd : DS w A n c l) (he : DS w B n d k) (hn : n ≤ 1000000) :
    Calls Tryd.prog 81 #[.slice A n c, .slice B n d] w fun e w' => e = .returned (.bool (decide (l = k))) ∧ Below w.heap.size w w' := by
  have hll := hd.len
  have hkk := he.len
  go_enter Tryd.func81, Tryd.ntmps81
  go_wp2_with fail
  go_loopw [5] (fun i wr => DSameRel w n l k i wr) (fun i _ => n - (intOf i).toNat)
  case atStart => exact ⟨0, by omega, rfl, by omega, Below.refl _ _⟩
  case round =>
    obtain ⟨j, hj, rfl, hsame, hB⟩ := hrel
    obtain ⟨w2, rfl⟩ : ∃ w2 : World, w2 = wr := ⟨_, rfl⟩
    have HS := Lib.hid hsame
    clear hsame
    by_cases hlt : j < n
    · obtain ⟨g, o, x0, x1, x2, x3, rfl, hgx, -, c0, c1, c2, c3⟩ := (hd.below hB).dig (k := j) hlt
      obtain ⟨g', o', y0, y1, y2, y3, rfl, hgy, -, e0, e1, e2, e3⟩ := (he.below hB).dig (k := j) hlt
      have hdd : decide (j < n) = true := by simp; omega
      have hin : (j : Int) < (n : Int) := by omega
      have heq := eq_dig x0 x1 x2 x3 y0 y1 y2 y3
      by_cases hxy : [x0, x1, x2, x3] = [y0, y1, y2, y3]
      · rw [decide_eq_true hxy] at heq
        have hxx : l.getD j [] = k.getD j [] := by rw [hgx, hgy, hxy]
        have HX := Lib.hid hxx
        clear hxx hgx hgy hxy
        go_wp2_with fail
        go_region
        go_wp2_with fail
        refine ⟨⟨j + 1, by omega, by go_num, ?_, hB.drew⟩, by simp [intOf]; omega⟩
        intro t ht
        rcases Nat.lt_or_ge t j with h | h
        · exact HS.out t h
        · obtain rfl : t = j := by omega
          exact HX.out
      · rw [decide_eq_false hxy] at heq
        have hne : l ≠ k := by
          intro h
          rw [h, hgy] at hgx
          exact hxy hgx.symm
        have HX := Lib.hid hne
        clear hne hgx hgy hxy
        go_wp2_with fail
        go_region
        go_wp2_with fail
        go_ret
        exact ⟨by rw [decide_eq_false HX.out]; rfl, hB.drew⟩
    · obtain rfl : j = n := by omega
      have hdd : decide (j < j) = false := by simp
      go_wp2_with fail
      go_ret
      refine ⟨?_, hB⟩
      rw [decide_eq_true (dl_ext (by omega) (by rw [hll]; exact HS.out))]; rfl
theorem eq_two (x0 x1 x2 x3 x4 x5 x6 x7 y0 y1 y2 y3 y4 y5 y6 y7 : Nat) (w : World) :
    (Op.equalIn 10000 74 (.agg #[.int .u32 x0, .int .u32 x1, .int .u32 x2, .int .u32 x3, .int .u32 x4, .int .u32 x5, .int .u32 x6, .int .u32 x7]) (.agg #[.int .u32 y0, .int .u32 y1, .int .u32 y2, .int .u32 y3, .int .u32 y4, .int .u32 y5, .int .u32 y6, .int .u32 y7])).run Tryd.prog w = .ok (decide ([x0, x1, x2, x3] = [y0, y1, y2, y3]) && decide ([x4, x5, x6, x7] = [y4, y5, y6, y7])) w := by
  obtain ⟨i, hi, -⟩ := info_parts infoDig
  rw [run_equalIn_array w 9999 (n := 2) _ _ Tryd.underlying74 hi]
  have hc : Tryd.prog.cellsOf 39 = 4 := by kernel_rfl
  have h1 : (Op.equalIn 9999 39 (.agg #[.int .u32 x0, .int .u32 x1, .int .u32 x2, .int .u32 x3]) (.agg #[.int .u32 y0, .int .u32 y1, .int .u32 y2, .int .u32 y3])).run Tryd.prog w = _ := eq_dig' 9997 x0 x1 x2 x3 y0 y1 y2 y3 w
  have h2 : (Op.equalIn 9999 39 (.agg #[.int .u32 x4, .int .u32 x5, .int .u32 x6, .int .u32 x7]) (.agg #[.int .u32 y4, .int .u32 y5, .int .u32 y6, .int .u32 y7])).run Tryd.prog w = _ := eq_dig' 9997 x4 x5 x6 x7 y4 y5 y6 y7 w
  have p0 : ∀ a b c d e f g h : Value, (part 39 #[a, b, c, d, e, f, g, h] 0).run Tryd.prog w = .ok (.agg #[a, b, c, d]) w := by
    intro a b c d e f g h
    simp [part, go_sem]
  have p4 : ∀ a b c d e f g h : Value, (part 39 #[a, b, c, d, e, f, g, h] 4).run Tryd.prog w = .ok (.agg #[e, f, g, h]) w := by
    intro a b c d e f g h
    simp [part, go_sem]
  generalize decide ([x0, x1, x2, x3] = [y0, y1, y2, y3]) = p at h1 ⊢
  generalize decide ([x4, x5, x6, x7] = [y4, y5, y6, y7]) = q at h2 ⊢
  simp [Op.eqItems, List.range_succ, hc]
  simp only [p0, p4, Result.andThen_ok, h1, h2]
  cases p <;> cases q <;> simp
theorem ds_alloc {w : World} {A : Option Addr} {n c : Nat} {l : Dl} (h : DS w A n c l) (o : Obj) : DS (w.alloc o) A n c l := h.below ((Below.refl _ _).alloc (Nat.le_refl _) o)
/-- What both halves come to, laid. -/
def HalfRel (a : Dl) (k : Nat) (w : World) (v : Value) (wx : World) : Prop :=
  ∃ g x0 x1 x2 x3 x4 x5 x6 x7 : Nat, v = .pointer (some ⟨g, 0, none⟩) ∧ root (a.take k) = [x0, x1, x2, x3] ∧ root (a.drop k) = [x4, x5, x6, x7] ∧ Bx wx g 74 (wds [x0, x1, x2, x3, x4, x5, x6, x7]) ∧ w.heap.size ≤ g ∧ Below w.heap.size w wx
def ClashIs (w : World) (e : Ending) (w' : World) : Prop :=
  ∃ x0 x1 x2 x3 x4 x5 x6 x7 y0 y1 y2 y3 y4 y5 y6 y7 : Nat, e = .returned (.tuple #[.agg #[.int .u32 x0, .int .u32 x1, .int .u32 x2, .int .u32 x3, .int .u32 x4, .int .u32 x5, .int .u32 x6, .int .u32 x7], .agg #[.int .u32 y0, .int .u32 y1, .int .u32 y2, .int .u32 y3, .int .u32 y4, .int .u32 y5, .int .u32 y6, .int .u32 y7], .bool true]) ∧ Below w.heap.size w w'
set_option maxRecDepth 100000 in
set_option maxHeartbeats 4000000 in
theorem rclash_any (N : Nat) : ∀ (a b : Dl) (A B : Option Addr) (n c d : Nat) (w : World), n ≤ N → n ≤ 1000000 → DS w A n c a → DS w B n d b → a ≠ b → root a = root b →
    Calls Tryd.prog 50 #[.slice A n c, .slice B n d] w fun e w' => ClashIs w e w' := by
  induction N with
  | zero =>
    intro a b A B n c d w hn _ hda hdb hne _
    obtain rfl : n = 0 := by omega
    exact absurd ((List.eq_nil_of_length_eq_zero hda.len).trans (List.eq_nil_of_length_eq_zero hdb.len).symm) hne
  | succ N ih =>
    intro a b A B n c d w hn hn6 hda hdb hne hroot
    have hla := hda.len
    have hlb := hdb.len
    have h1 : 1 < n := by
      rcases Nat.lt_or_ge 1 n with h | h
      · exact h
      · exfalso
        match a, b, hla, hlb with
        | [], [], _, _ => exact hne rfl
        | [], _ :: _, h2, h3 => simp at h2 h3; omega
        | _ :: _, [], h2, h3 => simp at h2 h3; omega
        | [x], [y], _, _ => rw [root_one, root_one] at hroot; exact hne (by rw [hroot])
        | [_], _ :: _ :: _, h2, h3 => simp at h2 h3; omega
        | _ :: _ :: _, _ :: _, h2, h3 => simp at h2; omega
    have IH := Lib.hid ih
    clear ih
    have hk1 := half_lt (n := n) h1
    have hk2 := half_pos n
    have HNE := Lib.hid hne
    have HRO := Lib.hid hroot
    have hnef : decide (a = b) = false := decide_eq_false hne
    have HNF := Lib.hid hnef
    clear hne hroot hnef hla hlb
    obtain ⟨hr1, hr2, hB0⟩ := two_alloc w #[.int .u32 0, .int .u32 0, .int .u32 0, .int .u32 0, .int .u32 0, .int .u32 0, .int .u32 0, .int .u32 0] #[.int .u32 0, .int .u32 0, .int .u32 0, .int .u32 0, .int .u32 0, .int .u32 0, .int .u32 0, .int .u32 0] 74 74
    go_enter Tryd.func50, Tryd.ntmps50
    go_wp2_with fail
    generalize ((w.alloc (.cells #[.int .u32 0, .int .u32 0, .int .u32 0, .int .u32 0, .int .u32 0, .int .u32 0, .int .u32 0, .int .u32 0] 74)).alloc (.cells #[.int .u32 0, .int .u32 0, .int .u32 0, .int .u32 0, .int .u32 0, .int .u32 0, .int .u32 0, .int .u32 0] 74)) = W at hr1 hr2 hB0 ⊢
    have hr1 : Bx W w.heap.size 74 (wds [0, 0, 0, 0, 0, 0, 0, 0]) := hr1
    have hr2 : Bx W (w.heap.size + 1) 74 (wds [0, 0, 0, 0, 0, 0, 0, 0]) := hr2
    refine (rdsame_any A B n c d a b W (hda.below hB0) (hdb.below hB0) hn6).mono ?_
    rintro e w1 ⟨rfl, hb1⟩
    rw [HNF.out]
    have hB1 := hB0.trans (hb1.mono hB0.size)
    have hr11 := hr1.belowS hb1
    have hr21 := hr2.belowS hb1
    clear hr1 hr2 hB0 hb1
    go_wp2_with fail
    refine (rroot_any n a A n c w1 (Nat.le_refl _) hn6 (hda.below hB1)).mono ?_
    rintro e w2 ⟨x0, x1, x2, x3, hx, rfl, hb2⟩
    have hB2 := hB1.trans (hb2.mono hB1.size)
    have hr12 := hr11.belowS hb2
    have hr22 := hr21.belowS hb2
    clear hr11 hr21 hB1 hb2
    go_wp2_with fail
    refine (rroot_any n b B n d w2 (Nat.le_refl _) hn6 (hdb.below hB2)).mono ?_
    rintro e w3 ⟨y0, y1, y2, y3, hy, rfl, hb3⟩
    have hxy : [x0, x1, x2, x3] = [y0, y1, y2, y3] := by rw [← hx.out, ← hy.out, HRO.out]
    simp only [List.cons.injEq, and_true] at hxy
    obtain ⟨rfl, rfl, rfl, rfl⟩ := hxy
    have heq := eq_dig x0 x1 x2 x3 x0 x1 x2 x3
    rw [decide_eq_true rfl] at heq
    have hB3 := hB2.trans (hb3.mono hB2.size)
    have hr13 := hr12.belowS hb3
    have hr23 := hr22.belowS hb3
    clear hr12 hr22 hB2 hb3
    go_wp2_with fail
    refine (rhalf_any n _ hn6).mono ?_
    rintro e w4 ⟨rfl, rfl⟩
    obtain ⟨k, hk⟩ : ∃ k, k = half n := ⟨_, rfl⟩
    rw [← hk] at hk1 hk2 ⊢
    have HK := Lib.hid hk
    clear hk heq hx hy
    obtain ⟨g, o, rfl, hdr⟩ := (hda.below hB3).drop hk1
    have hdt := (hda.below hB3).take (k := k) (by omega)
    obtain ⟨g', o', rfl, her⟩ := (hdb.below hB3).drop hk1
    have het := (hdb.below hB3).take (k := k) (by omega)
    have hcap := hda.cap
    have hdcap := hdb.cap
    have hs1 := sl42_h (some ⟨g, o, none⟩) n c k (by omega)
    have hs2 := sl42_l g o n c k (by omega) (by omega)
    have hs3 := sl42_h (some ⟨g', o', none⟩) n d k (by omega)
    have hs4 := sl42_l g' o' n d k (by omega) (by omega)
    go_wp2_with fail
    go_cut [8] (fun v wx => HalfRel a k w3 v wx)
    case first =>
      go_region_with (first
        | (go_at_call_of 82 (Value.slice (some ⟨g, o, none⟩) k c); refine (rroot_any k (a.take k) _ k c _ (Nat.le_refl _) ?_ ?_).mono ?_; omega; (first | exact hdt.drew | exact (ds_alloc hdt _).drew); rintro e w1 ⟨x0, x1, x2, x3, hx, rfl, hb1⟩; first
          | (have hb1' : Below w3.heap.size w3 w1 := (Below.refl w3.heap.size w3).drew.trans hb1; have hr1 := hdr.below hb1')
          | (have hb1' : Below w3.heap.size w3 w1 := ((Below.refl w3.heap.size w3).alloc (Nat.le_refl _) (.cells #[.int .u32 0, .int .u32 0, .int .u32 0, .int .u32 0, .int .u32 0, .int .u32 0, .int .u32 0, .int .u32 0] 74)).drew.trans (hb1.mono (by simp)); have hr1 := hdr.below hb1'; have hn1 : Bx w1 w3.heap.size 74 (wds [0, 0, 0, 0, 0, 0, 0, 0]) := (Bx.new w3 74 #[.int .u32 0, .int .u32 0, .int .u32 0, .int .u32 0, .int .u32 0, .int .u32 0, .int .u32 0, .int .u32 0]).drew.belowS hb1))
        | (go_at_call_of 82 (Value.slice (some ⟨g, o + k * 4, none⟩) (n - k) (c - k)); refine (rroot_any (n - k) (a.drop k) _ (n - k) (c - k) _ (Nat.le_refl _) ?_ ?_).mono ?_; omega; (first | exact hr1 | exact ds_alloc hr1 _); rintro e w2 ⟨x4, x5, x6, x7, hxx, rfl, hb2⟩; first
          | (have hb2' : Below w3.heap.size w3 w2 := hb1'.trans (hb2.mono hb1'.size); have hn2 := hn1.belowS hb2; have hle : w3.heap.size ≤ w3.heap.size := Nat.le_refl _; obtain ⟨c0, c1, c2, c3, c4, c5, c6, c7⟩ := hn2.w8c; obtain ⟨f0, f1, f2, f3, f4, f5, f6, f7⟩ := hn2.w8f)
          | (have hb2' : Below w3.heap.size w3 w2 := hb1'.trans (hb2.mono hb1'.size))
          | (have hb2' : Below w3.heap.size w3 w2 := (hb1'.alloc hb1'.size (.cells #[.int .u32 0, .int .u32 0, .int .u32 0, .int .u32 0, .int .u32 0, .int .u32 0, .int .u32 0, .int .u32 0] 74)).trans (hb2.mono (hb1'.alloc hb1'.size _).size); have hn2 : Bx w2 w1.heap.size 74 (wds [0, 0, 0, 0, 0, 0, 0, 0]) := (Bx.new w1 74 #[.int .u32 0, .int .u32 0, .int .u32 0, .int .u32 0, .int .u32 0, .int .u32 0, .int .u32 0, .int .u32 0]).belowS hb2; have hle : w3.heap.size ≤ w1.heap.size := hb1'.size; obtain ⟨c0, c1, c2, c3, c4, c5, c6, c7⟩ := hn2.w8c; obtain ⟨f0, f1, f2, f3, f4, f5, f6, f7⟩ := hn2.w8f)))
      all_goals
        go_wp2_with fail
        go_meet
        case rel =>
          first
            | exact ⟨_, x0, x1, x2, x3, x4, x5, x6, x7, rfl, hx.out, hxx.out, hn2.set8 x0 x1 x2 x3 x4 x5 x6 x7, hle, below_set8 hb2' hle x0 x1 x2 x3 x4 x5 x6 x7⟩
            | exact ⟨_, x0, x1, x2, x3, x4, x5, x6, x7, rfl, hx.out, hxx.out, Bx.new w2 74 _, hb2'.size, hb2'.alloc hb2'.size _⟩
    case rest =>
      obtain ⟨ga, x0, x1, x2, x3, x4, x5, x6, x7, rfl, hxa, hxb, hba, hga, hBa⟩ := hcut
      obtain ⟨V, rfl⟩ : ∃ V : World, V = wc := ⟨_, rfl⟩
      have HXA := Lib.hid hxa
      have HXB := Lib.hid hxb
      have hB4 := hB3.trans (hBa.mono hB3.size)
      have hr14 := hr13.belowS hBa
      have hr24 := hr23.belowS hBa
      have hdt4 := hdt.below hBa
      have hdr4 := hdr.below hBa
      have het4 := het.below hBa
      have her4 := her.below hBa
      have hgw := hr13.lt
      have hgw2 := hr23.lt
      have hn1 : ga ≠ w.heap.size := by omega
      have hn2 : ga ≠ w.heap.size + 1 := by omega
      clear hxa hxb hB3 hr13 hr23 hdt hdr het her hBa
      go_wp2_with fail
      go_cut [9] (fun v wx => HalfRel b k V v wx)
      case first =>
        go_region_with (first
          | (go_at_call_of 82 (Value.slice (some ⟨g', o', none⟩) k d); refine (rroot_any k (b.take k) _ k d _ (Nat.le_refl _) ?_ ?_).mono ?_; omega; (first | exact het4.drew | exact (ds_alloc het4 _).drew); rintro e w1 ⟨y0, y1, y2, y3, hy, rfl, hb1⟩; first
            | (have hb1' : Below V.heap.size V w1 := (Below.refl V.heap.size V).drew.trans hb1; have hr1 := her4.below hb1')
            | (have hb1' : Below V.heap.size V w1 := ((Below.refl V.heap.size V).alloc (Nat.le_refl _) (.cells #[.int .u32 0, .int .u32 0, .int .u32 0, .int .u32 0, .int .u32 0, .int .u32 0, .int .u32 0, .int .u32 0] 74)).drew.trans (hb1.mono (by simp)); have hr1 := her4.below hb1'; have hn1 : Bx w1 V.heap.size 74 (wds [0, 0, 0, 0, 0, 0, 0, 0]) := (Bx.new V 74 #[.int .u32 0, .int .u32 0, .int .u32 0, .int .u32 0, .int .u32 0, .int .u32 0, .int .u32 0, .int .u32 0]).drew.belowS hb1))
          | (go_at_call_of 82 (Value.slice (some ⟨g', o' + k * 4, none⟩) (n - k) (d - k)); refine (rroot_any (n - k) (b.drop k) _ (n - k) (d - k) _ (Nat.le_refl _) ?_ ?_).mono ?_; omega; (first | exact hr1 | exact ds_alloc hr1 _); rintro e w2 ⟨y4, y5, y6, y7, hyy, rfl, hb2⟩; first
            | (have hb2' : Below V.heap.size V w2 := hb1'.trans (hb2.mono hb1'.size); have hn2 := hn1.belowS hb2; have hle : V.heap.size ≤ V.heap.size := Nat.le_refl _; obtain ⟨c0, c1, c2, c3, c4, c5, c6, c7⟩ := hn2.w8c; obtain ⟨f0, f1, f2, f3, f4, f5, f6, f7⟩ := hn2.w8f)
            | (have hb2' : Below V.heap.size V w2 := hb1'.trans (hb2.mono hb1'.size))
            | (have hb2' : Below V.heap.size V w2 := (hb1'.alloc hb1'.size (.cells #[.int .u32 0, .int .u32 0, .int .u32 0, .int .u32 0, .int .u32 0, .int .u32 0, .int .u32 0, .int .u32 0] 74)).trans (hb2.mono (hb1'.alloc hb1'.size _).size); have hn2 : Bx w2 w1.heap.size 74 (wds [0, 0, 0, 0, 0, 0, 0, 0]) := (Bx.new w1 74 #[.int .u32 0, .int .u32 0, .int .u32 0, .int .u32 0, .int .u32 0, .int .u32 0, .int .u32 0, .int .u32 0]).belowS hb2; have hle : V.heap.size ≤ w1.heap.size := hb1'.size; obtain ⟨c0, c1, c2, c3, c4, c5, c6, c7⟩ := hn2.w8c; obtain ⟨f0, f1, f2, f3, f4, f5, f6, f7⟩ := hn2.w8f)))
        all_goals
          go_wp2_with fail
          go_meet
          case rel =>
            first
              | exact ⟨_, y0, y1, y2, y3, y4, y5, y6, y7, rfl, hy.out, hyy.out, hn2.set8 y0 y1 y2 y3 y4 y5 y6 y7, hle, below_set8 hb2' hle y0 y1 y2 y3 y4 y5 y6 y7⟩
              | exact ⟨_, y0, y1, y2, y3, y4, y5, y6, y7, rfl, hy.out, hyy.out, Bx.new w2 74 _, hb2'.size, hb2'.alloc hb2'.size _⟩
      case rest =>
        obtain ⟨gb, y0, y1, y2, y3, y4, y5, y6, y7, rfl, hya, hyb, hbb, hgb, hBb⟩ := hcut
        obtain ⟨U, rfl⟩ : ∃ U : World, U = wc := ⟨_, rfl⟩
        have hB5 := hB4.trans (hBb.mono hB4.size)
        have hr15 := hr14.belowS hBb
        have hr25 := hr24.belowS hBb
        have hba5 := hba.belowS hBb
        have hdt5 := hdt4.below hBb
        have hdr5 := hdr4.below hBb
        have het5 := het4.below hBb
        have her5 := her4.below hBb
        have heq := eq_two x0 x1 x2 x3 x4 x5 x6 x7 y0 y1 y2 y3 y4 y5 y6 y7
        have hr1lt := hr14.lt
        have hr2lt := hr24.lt
        have hn3 : gb ≠ w.heap.size := by omega
        have hn4 : gb ≠ w.heap.size + 1 := by omega
        have hn5 := hn1.symm
        have hn6' := hn2.symm
        have hn7 := hn3.symm
        have hn8 := hn4.symm
        obtain ⟨i0, i1, i2, i3, i4, i5, i6, i7⟩ := hr15.w8c
        obtain ⟨j0, j1, j2, j3, j4, j5, j6, j7⟩ := hr25.w8c
        obtain ⟨f0, f1, f2, f3, f4, f5, f6, f7⟩ := hr15.w8f
        obtain ⟨g0, g1, g2, g3, g4, g5, g6, g7⟩ := hr25.w8f
        obtain ⟨c0, c1, c2, c3, c4, c5, c6, c7⟩ := hba5.w8c
        obtain ⟨e0, e1, e2, e3, e4, e5, e6, e7⟩ := hbb.w8c
        by_cases hxy : [x0, x1, x2, x3] = [y0, y1, y2, y3] ∧ [x4, x5, x6, x7] = [y4, y5, y6, y7]
        · rw [decide_eq_true hxy.1, decide_eq_true hxy.2, Bool.and_self] at heq
          have hrt : root (a.take k) = root (b.take k) := by rw [HXA.out, hya, hxy.1]
          have hrd : root (a.drop k) = root (b.drop k) := by rw [HXB.out, hyb, hxy.2]
          have HRT := Lib.hid hrt
          have HRD := Lib.hid hrd
          clear hya hyb hxy hrt hrd hr14 hr24 hba hdt4 hdr4 het4 her4 hBb hga hgb hgw hgw2 hr1lt hr2lt
          go_wp2_with fail
          clear c0 c1 c2 c3 c4 c5 c6 c7 e0 e1 e2 e3 e4 e5 e6 e7 hba5 hbb
          by_cases hs : a.take k = b.take k
          · have hdn : a.drop k ≠ b.drop k := by
              intro h
              apply HNE.out
              rw [← List.take_append_drop k a, ← List.take_append_drop k b, hs, h]
            have hq := decide_eq_true hs
            have HQ := Lib.hid hq
            have HD := Lib.hid hdn
            clear hs hq hdn
            go_region_with (first
              | (go_at_call 81; refine (rdsame_any _ _ k c d (a.take k) (b.take k) _ ?_ ?_ ?_).mono ?_; exact hdt5.drew; exact het5.drew; omega; rintro e w5 ⟨rfl, hb6⟩; rw [HQ.out]; have hB6 := hB5.drew.trans (hb6.mono hB5.size); have hr16 := hr15.drew.belowS hb6; have hr26 := hr25.drew.belowS hb6; have hdt6 := hdt5.drew.below hb6; have hdr6 := hdr5.drew.below hb6; have het6 := het5.drew.below hb6; have her6 := her5.drew.below hb6))
            clear hb6 hr15 hr25 hdt5 hdr5 het5 her5 hB5
            go_wp2_with fail
            go_region_with (first
              | (go_at_call 50; refine (IH.out (a.drop k) (b.drop k) (some ⟨g, o + k * 4, none⟩) (some ⟨g', o' + k * 4, none⟩) (n - k) (c - k) (d - k) _ ?_ ?_ ?_ ?_ HD.out HRD.out).mono ?_; omega; omega; exact hdr6.drew; exact her6.drew; rintro e w6 ⟨p0, p1, p2, p3, p4, p5, p6, p7, q0, q1, q2, q3, q4, q5, q6, q7, rfl, hb7⟩; have hB7 := hB6.drew.trans (hb7.mono hB6.size); have hr17 := hr16.drew.belowS hb7; have hr27 := hr26.drew.belowS hb7; obtain ⟨r0, r1, r2, r3, r4, r5, r6, r7⟩ := hr17.w8c; obtain ⟨s0, s1, s2, s3, s4, s5, s6, s7⟩ := hr27.w8c; obtain ⟨t0, t1, t2, t3, t4, t5, t6, t7⟩ := hr17.w8f; obtain ⟨u0, u1, u2, u3, u4, u5, u6, u7⟩ := hr27.w8f))
            all_goals
              go_wp2_with fail
              have Q1 := ((hr17.set8 p0 p1 p2 p3 p4 p5 p6 p7).far8 (g := w.heap.size + 1) (by omega) q0 q1 q2 q3 q4 q5 q6 q7)
              have Q2 := ((hr27.far8 (g := w.heap.size) (by omega) p0 p1 p2 p3 p4 p5 p6 p7).set8 q0 q1 q2 q3 q4 q5 q6 q7)
              refine bodyPost_ret (v := .tuple #[.agg (wds [p0, p1, p2, p3, p4, p5, p6, p7]), .agg (wds [q0, q1, q2, q3, q4, q5, q6, q7]), .bool true]) (results_rows rfl _ _ w.heap.size (w.heap.size + 1) 74 74 _ _ (0, 0) (0, 0) _ rfl rfl rfl Q1 Q2 Tryd.underlying74 rfl (by kernel_rfl) (by kernel_rfl)) rfl ⟨p0, p1, p2, p3, p4, p5, p6, p7, q0, q1, q2, q3, q4, q5, q6, q7, rfl, (below_set8 (below_set8 hB7 (Nat.le_refl _) p0 p1 p2 p3 p4 p5 p6 p7) (Nat.le_add_right _ _) q0 q1 q2 q3 q4 q5 q6 q7)⟩
          · have hq := decide_eq_false hs
            have HQ := Lib.hid hq
            have HD := Lib.hid hs
            clear hs hq
            go_region_with (first
              | (go_at_call 81; refine (rdsame_any _ _ k c d (a.take k) (b.take k) _ ?_ ?_ ?_).mono ?_; exact hdt5.drew; exact het5.drew; omega; rintro e w5 ⟨rfl, hb6⟩; rw [HQ.out]; have hB6 := hB5.drew.trans (hb6.mono hB5.size); have hr16 := hr15.drew.belowS hb6; have hr26 := hr25.drew.belowS hb6; have hdt6 := hdt5.drew.below hb6; have hdr6 := hdr5.drew.below hb6; have het6 := het5.drew.below hb6; have her6 := her5.drew.below hb6))
            clear hb6 hr15 hr25 hdt5 hdr5 het5 her5 hB5
            go_wp2_with fail
            go_region_with (first
              | (go_at_call 50; refine (IH.out (a.take k) (b.take k) (some ⟨g, o, none⟩) (some ⟨g', o', none⟩) k c d _ ?_ ?_ ?_ ?_ HD.out HRT.out).mono ?_; omega; omega; exact hdt6.drew; exact het6.drew; rintro e w6 ⟨p0, p1, p2, p3, p4, p5, p6, p7, q0, q1, q2, q3, q4, q5, q6, q7, rfl, hb7⟩; have hB7 := hB6.drew.trans (hb7.mono hB6.size); have hr17 := hr16.drew.belowS hb7; have hr27 := hr26.drew.belowS hb7; obtain ⟨r0, r1, r2, r3, r4, r5, r6, r7⟩ := hr17.w8c; obtain ⟨s0, s1, s2, s3, s4, s5, s6, s7⟩ := hr27.w8c; obtain ⟨t0, t1, t2, t3, t4, t5, t6, t7⟩ := hr17.w8f; obtain ⟨u0, u1, u2, u3, u4, u5, u6, u7⟩ := hr27.w8f))
            all_goals
              go_wp2_with fail
              have Q1 := ((hr17.set8 p0 p1 p2 p3 p4 p5 p6 p7).far8 (g := w.heap.size + 1) (by omega) q0 q1 q2 q3 q4 q5 q6 q7)
              have Q2 := ((hr27.far8 (g := w.heap.size) (by omega) p0 p1 p2 p3 p4 p5 p6 p7).set8 q0 q1 q2 q3 q4 q5 q6 q7)
              refine bodyPost_ret (v := .tuple #[.agg (wds [p0, p1, p2, p3, p4, p5, p6, p7]), .agg (wds [q0, q1, q2, q3, q4, q5, q6, q7]), .bool true]) (results_rows rfl _ _ w.heap.size (w.heap.size + 1) 74 74 _ _ (0, 0) (0, 0) _ rfl rfl rfl Q1 Q2 Tryd.underlying74 rfl (by kernel_rfl) (by kernel_rfl)) rfl ⟨p0, p1, p2, p3, p4, p5, p6, p7, q0, q1, q2, q3, q4, q5, q6, q7, rfl, (below_set8 (below_set8 hB7 (Nat.le_refl _) p0 p1 p2 p3 p4 p5 p6 p7) (Nat.le_add_right _ _) q0 q1 q2 q3 q4 q5 q6 q7)⟩
        · have hpq : (decide ([x0, x1, x2, x3] = [y0, y1, y2, y3]) && decide ([x4, x5, x6, x7] = [y4, y5, y6, y7])) = false := by
            rw [Bool.and_eq_false_iff]
            by_cases h : [x0, x1, x2, x3] = [y0, y1, y2, y3]
            · exact .inr (decide_eq_false fun h2 => hxy ⟨h, h2⟩)
            · exact .inl (decide_eq_false h)
          rw [hpq] at heq
          clear hpq hya hyb hxy hr14 hr24 hba hdt4 hdr4 het4 her4 hBb hga hgb hgw hgw2 hr1lt hr2lt
          go_wp2_with fail
          go_region
          all_goals
            go_wp2_with fail
            have Q1 := ((hr15.set8 x0 x1 x2 x3 x4 x5 x6 x7).far8 (g := w.heap.size + 1) (by omega) y0 y1 y2 y3 y4 y5 y6 y7).drew
            have Q2 := ((hr25.far8 (g := w.heap.size) (by omega) x0 x1 x2 x3 x4 x5 x6 x7).set8 y0 y1 y2 y3 y4 y5 y6 y7).drew
            refine bodyPost_ret (v := .tuple #[.agg (wds [x0, x1, x2, x3, x4, x5, x6, x7]), .agg (wds [y0, y1, y2, y3, y4, y5, y6, y7]), .bool true]) (results_rows rfl _ _ w.heap.size (w.heap.size + 1) 74 74 _ _ (0, 0) (0, 0) _ rfl rfl rfl Q1 Q2 Tryd.underlying74 rfl (by kernel_rfl) (by kernel_rfl)) rfl ⟨x0, x1, x2, x3, x4, x5, x6, x7, y0, y1, y2, y3, y4, y5, y6, y7, rfl, (below_set8 (below_set8 hB5 (Nat.le_refl _) x0 x1 x2 x3 x4 x5 x6 x7) (Nat.le_add_right _ _) y0 y1 y2 y3 y4 y5 y6 y7).drew⟩
end Go.Proofs.YtgpohndnkecbeaaDoor
