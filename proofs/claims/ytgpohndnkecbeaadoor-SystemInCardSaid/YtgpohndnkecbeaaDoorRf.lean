/- Contract: ref03.Of. -/
import Derived.Test.YtgpohndnkecbeaaDoorRd
import Derived.Test.YtgpohndnkecbeaaDoorRe
import Derived.Test.YtgpohndnkecbeaaDoorDg
import Derived.StillTailTactics
namespace Go.Proofs.YtgpohndnkecbeaaDoor
open Go Go.RowKit Go.Proofs.Sc
/-- The bytes with the mark and k zeros. -/
def PadIs (s : ByteArray) (k : Nat) (t : ByteArray) : Prop := t.data.toList = s.data.toList ++ [128] ++ List.replicate k 0
theorem PadIs.size {s t : ByteArray} {k : Nat} (h : PadIs s k t) : t.size = s.size + 1 + k := by
  rw [← size_list, h]; simp; omega
theorem PadIs.next {s t : ByteArray} {k : Nat} (h : PadIs s k t) : PadIs s (k + 1) (t ++ ⟨#[0]⟩) := by
  unfold PadIs at h ⊢
  rw [append_list, h, List.replicate_succ', List.append_assoc _ _ [0]]
def OfRel (w : World) (s : ByteArray) (u : Value) (wr : World) : Prop :=
  ∃ (t : ByteArray) (k : Nat), u = .string t ∧ PadIs s k t ∧ k ≤ (24 - (s.size + 1) % 16) % 16 ∧ wr = w.alloc (.cells (wds [0, 0, 0, 0]) 39)
theorem rs_belowB {w w' : World} {B n size : Nat} {A : Option Addr} {xs : List Value} (h : Rs w A n size xs) (hb : Below B w w') (hA : ∀ a, A = some a → a.block < B) : Rs w' A n size xs :=
  ⟨h.1, fun hn => by
    obtain ⟨g, o, e, hc⟩ := h.2 hn
    exact ⟨g, o, e, fun j u hu => (hb.cell (p := ⟨g, o + j, none⟩) (show g < B from hA ⟨g, o, none⟩ e)).trans (hc j u hu)⟩⟩
def OfRel2 (w : World) (g : Nat) (A : Option Addr) (ws : List Nat) (i : Value) (wr : World) : Prop :=
  ∃ (k : Nat) (S : List Nat), 4 * k ≤ ws.length ∧ i = .int .i64 (4 * k : Nat) ∧ W8 S ∧ takeB [1, 0, 0, 0, 0, 0, 0, 0] ws = takeB S (ws.drop (4 * k)) ∧ Rs wr A ws.length 1 (vw ws) ∧ (∀ a, A = some a → a.block < g) ∧ Bx wr w.heap.size 39 (wds [0, 0, 0, 0]) ∧ Bx wr g 113 (wds S) ∧ Below w.heap.size w wr
set_option maxRecDepth 100000 in
set_option maxHeartbeats 2000000 in
theorem rof_any (s : ByteArray) (w : World) (hn : s.size ≤ 1000000) :
    Calls Tryd.prog 54 #[.string s] w fun e w' => e = .returned (.agg (wds (dig s.data.toList))) ∧ Below w.heap.size w w' := by
  go_enter Tryd.func54, Tryd.ntmps54
  go_wp2_with fail
  go_loopw [0] (fun u wr => OfRel w s u wr) (fun u _ => s.size + 20 - strLen u)
  case atStart => exact ⟨s ++ ⟨#[128]⟩, 0, rfl, by unfold PadIs; rw [append_list]; simp, by omega, rfl⟩
  case round =>
    obtain ⟨t, k, rfl, hp, hk, rfl⟩ := hrel
    have hts := hp.size
    by_cases hlt : k < (24 - (s.size + 1) % 16) % 16
    · have hne : ((t.size : Int) % 16 != 8) = true := by simp; omega
      have hs1 : (t ++ ⟨#[0]⟩ : ByteArray).size = t.size + 1 := by rw [ByteArray.size_append]; rfl
      go_wp2_with fail
      refine ⟨⟨t ++ ⟨#[0]⟩, k + 1, rfl, hp.next, by omega, rfl⟩, ?_⟩
      show s.size + 20 - (t ++ ⟨#[0]⟩ : ByteArray).size < s.size + 20 - t.size
      omega
    · have hk2 : k = (24 - (s.size + 1) % 16) % 16 := by omega
      have hne : ((t.size : Int) % 16 != 8) = false := by simp; omega
      have hpd : t.data.toList = padB s.data.toList := by rw [hp, hk2, padB, size_list]
      have hw := rwords_any t (w.alloc (.cells (wds [0, 0, 0, 0]) 39)) (by omega) (by omega)
      go_wp2_with fail
      refine hw.mono ?_
      rintro e w2 ⟨v, rfl, hown, hb2⟩
      obtain ⟨A, c, rfl⟩ := own_slice hown
      obtain ⟨ws, hws⟩ : ∃ ws, ws = bwords t.data.toList := ⟨_, rfl⟩
      have hwl := bwords_len t.data.toList
      have hwlt := bwords_lt t.data.toList
      rw [← hws] at hown hwl hwlt ⊢
      rw [size_list] at hwl
      have hws2 : ws ++ lenW s.data.toList = bwords (padB s.data.toList) ++ lenW s.data.toList := by rw [hws, hpd]
      have HW := Lib.hid hws2
      have HT := Lib.hid hwlt
      clear hws hws2 hwlt hpd hp hne hk
      obtain ⟨m, hm⟩ : ∃ m, m = ws.length := ⟨_, rfl⟩
      rw [← hm] at hown hwl ⊢
      have HM := Lib.hid hm
      have hm4 : m ≤ 1000000 := by omega
      have hmm : m % 4 = 2 := by omega
      clear hm hwl
      have hx0 : Bx w2 w.heap.size 39 (wds [0, 0, 0, 0]) := (Bx.new w 39 _).belowS hb2
      have hB2 : Below w.heap.size w w2 := ((Below.refl _ _).alloc (Nat.le_refl _) _).trans (hb2.mono (by simp))
      obtain ⟨n1, hn1⟩ : ∃ n1 : Nat, n1 = s.size / 4294967296 := ⟨_, rfl⟩
      have l2 : (s.size : Int) / 4294967296 = (n1 : Int) := by omega
      have HN := Lib.hid hn1
      have hn10 : n1 < 4294967296 := by omega
      clear hn1
      have hown' : w2.ownsRow (w.heap.size + 1) 37 1 (.slice A m c) m (vw ws) := by simpa using hown
      have hsz2 : w.heap.size + 1 ≤ w2.heap.size := hx0.lt
      clear hown
      go_wp2_with (first | (at_builtin; refine ap_new 85 37 _ 1 4 Tryd.underlying85 infoWord rfl (by decide) (by decide) rfl _ _ rfl (w.heap.size + 1) _ m _ rfl (hown'.alloc _) w2.heap.size 2 2 _ rfl (Bx.new w2 37 _) rfl ?c1 (by omega) (by simp; omega) ?_; rotate_left; intro v3 w3 hown3 hg3 hat3))
      case c1 => simp [Value.oneCell']
      obtain ⟨A3, c3, rfl⟩ := own_slice hown3
      have hb3 : Below (w.heap.size + 1) w2 w3 := ((Below.refl (w.heap.size + 1) w2).alloc hsz2 _).grown hg3 (by simp; omega) (own_base hown')
      have hx3 : Bx w3 w.heap.size 39 (wds [0, 0, 0, 0]) := hx0.below hb3 (by omega)
      have hB3 : Below w.heap.size w w3 := hB2.trans (hb3.mono (by omega))
      have hsz3 : w.heap.size < w3.heap.size := hx3.lt
      obtain ⟨ZS, hZS⟩ : ∃ ZS, ZS = ws ++ lenW s.data.toList := ⟨_, rfl⟩
      have hlen : lenW s.data.toList = [s.size, n1] := by
        unfold lenW
        rw [size_list, HN.out]
        congr 1
        · omega
        · congr 1; omega
      have hr3 : Rs w3 A3 ZS.length 1 (vw ZS) := by
        have h1 := Rs.of_own hown3
        have e1 : vw ws ++ (#[Value.int .u32 s.size, .int .u32 n1] : Array Value).toList = vw ZS := by rw [hZS, hlen, vw_app]; rfl
        rw [e1] at h1
        have e2 : ZS.length = m + 2 := by rw [hZS, hlen, List.length_append, HM.out]; rfl
        rw [e2]; exact h1
      have hzl : ZS.length = m + 2 := by rw [hZS, hlen, List.length_append, HM.out]; rfl
      have hzlt : ∀ x ∈ ZS, x < 4294967296 := by
        intro x hx
        rw [hZS, hlen, List.mem_append] at hx
        rcases hx with hx | hx
        · exact HT.out x hx
        · simp only [List.mem_cons, List.not_mem_nil, or_false] at hx
          rcases hx with rfl | rfl <;> omega
      have HZ : Hid (dig s.data.toList = takeW 1 ZS) := by
        show dig _ = _
        rw [dig, hZS, HW.out]
      clear hZS hlen hown3 hg3 hat3 hb3 hb2 hown' HN l2 hx0 hB2
      go_loopw [7] (fun i wr => OfRel2 w w3.heap.size A3 ZS i wr) (fun i _ => ZS.length - (intOf i).toNat)
      case atStart =>
        have hAlt : ∀ a, A3 = some a → a.block < w3.heap.size := by
          intro a ha
          obtain ⟨g', o, e, hc⟩ := hr3.word (k := 0) (by omega)
          rw [e] at ha; cases ha
          exact World.block_lt_of_cell? w3 _ hc
        refine ⟨0, [1, 0, 0, 0, 0, 0, 0, 0], by omega, rfl, ⟨rfl, by simp⟩, rfl, hr3.alloc _, hAlt, hx3.alloc _, Bx.new w3 113 (wds [1, 0, 0, 0, 0, 0, 0, 0]), hB3.alloc hB3.size _⟩
      case round =>
        obtain ⟨k, S, hk, rfl, hS, htk, hrr, hAlt, hxr, hgr, hBr⟩ := hrel
        clear hr3 hx3 hB3
        obtain ⟨w4, rfl⟩ : ∃ w4 : World, w4 = wr := ⟨_, rfl⟩
        have HTK := Lib.hid htk
        clear htk
        obtain ⟨i, hi⟩ : ∃ i, i = 4 * k := ⟨_, rfl⟩
        rw [← hi] at hk ⊢
        by_cases hlt : i < m + 2
        · obtain ⟨z0, z1, z2, z3, z4, z5, z6, z7, rfl, -⟩ := id hS.form
          have hw8 := hS
          obtain ⟨g', o, rfl, e0⟩ := hrr.word (k := i) (by omega)
          obtain ⟨_, _, h1, e1⟩ := hrr.word (k := i + 1) (by omega)
          cases h1
          obtain ⟨_, _, h1, e2⟩ := hrr.word (k := i + 2) (by omega)
          cases h1
          obtain ⟨_, _, h1, e3⟩ := hrr.word (k := i + 3) (by omega)
          cases h1
          have hdr : ZS.drop (4 * k) = gw ZS i :: gw ZS (i + 1) :: gw ZS (i + 2) :: gw ZS (i + 3) :: ZS.drop (4 * (k + 1)) := by
            rw [← hi, List.drop_eq_getElem_cons (by omega), List.drop_eq_getElem_cons (by omega), List.drop_eq_getElem_cons (by omega), List.drop_eq_getElem_cons (by omega), show i + 1 + 1 + 1 + 1 = 4 * (k + 1) by omega]
            simp [gw, List.getD_eq_getElem?_getD, show i < ZS.length by omega, show i + 1 < ZS.length by omega, show i + 2 < ZS.length by omega, show i + 3 < ZS.length by omega]
          have l0 := gw_lt hzlt i
          have l1 := gw_lt hzlt (i + 1)
          have l2 := gw_lt hzlt (i + 2)
          have l3 := gw_lt hzlt (i + 3)
          obtain ⟨a0, h0⟩ : ∃ a, a = gw ZS i := ⟨_, rfl⟩
          obtain ⟨a1, h1⟩ : ∃ a, a = gw ZS (i + 1) := ⟨_, rfl⟩
          obtain ⟨a2, h2⟩ : ∃ a, a = gw ZS (i + 2) := ⟨_, rfl⟩
          obtain ⟨a3, h3⟩ : ∃ a, a = gw ZS (i + 3) := ⟨_, rfl⟩
          rw [← h0] at e0 l0 hdr
          rw [← h1] at e1 l1 hdr
          rw [← h2] at e2 l2 hdr
          rw [← h3] at e3 l3 hdr
          have hb4 : W4 [a0, a1, a2, a3] := ⟨rfl, by simp [l0, l1, l2, l3]⟩
          clear h0 h1 h2 h3
          have HD := Lib.hid hdr
          clear hdr
          obtain ⟨d0, d1, d2, d3, d4, d5, d6, d7⟩ := hgr.w8c
          have hd : decide ((i : Int) < (m : Int) + 2) = true := by simp; omega
          have j1 : (0 : Int) ≤ (i : Int) + 1 := by omega
          have j2 : (0 : Int) ≤ (i : Int) + 2 := by omega
          have j3 : (0 : Int) ≤ (i : Int) + 3 := by omega
          have i0 : (i : Int) < (m : Int) + 2 := by omega
          have i1 : (i : Int) + 1 < (m : Int) + 2 := by omega
          have i2 : (i : Int) + 2 < (m : Int) + 2 := by omega
          have i3 : (i : Int) + 3 < (m : Int) + 2 := by omega
          have HI := Lib.hid hi
          clear hi
          go_wp2_with fail
          have wr1 : IntKind.i64.wrap ((i : Int) + 1) = (i : Int) + 1 := IntWalk.i64_in _ (by omega)
          have wr2 : IntKind.i64.wrap ((i : Int) + 2) = (i : Int) + 2 := IntWalk.i64_in _ (by omega)
          have wr3 : IntKind.i64.wrap ((i : Int) + 3) = (i : Int) + 3 := IntWalk.i64_in _ (by omega)
          have t1 : ((i : Int) + 1).toNat = i + 1 := by omega
          have t2 : ((i : Int) + 2).toNat = i + 2 := by omega
          have t3 : ((i : Int) + 3).toNat = i + 3 := by omega
          go_still_tail 21, (by kernel_rfl)
          change wpList _ _ _ _ _ w4.drew
          have hg5 := hgr.drew
          have hx5 := hxr.drew
          have hr5 := hrr.drew
          have hB5 := hBr.drew
          go_wp2_with fail
          refine (rtake_any z0 z1 z2 z3 z4 z5 z6 z7 a0 a1 a2 a3 _ hw8 hb4).mono ?_
          rintro e w5 ⟨y0, y1, y2, y3, y4, y5, y6, y7, hy, rfl, hb5⟩
          have hg6 := hg5.belowS hb5
          have hx6 := hx5.belowS hb5
          have hB6 := hB5.trans (hb5.mono hB5.size)
          obtain ⟨k0, k1, k2, k3, k4, k5, k6, k7⟩ := hg6.w8c
          obtain ⟨f0, f1, f2, f3, f4, f5, f6, f7⟩ := hg6.w8f
          go_wp2_with fail
          have hii := HI.out
          have hb8 := below_set8 (g := w3.heap.size) (Below.refl w3.heap.size w5) (Nat.le_refl _) y0 y1 y2 y3 y4 y5 y6 y7
          have hr6 : Rs w5 (some ⟨g', o, none⟩) ZS.length 1 (vw ZS) := Rs.below hr5 hb5
          refine ⟨⟨k + 1, [y0, y1, y2, y3, y4, y5, y6, y7], by omega, by congr 1; omega, ?_, ?_, rs_belowB hr6 hb8 hAlt, hAlt, hx6.far8 (by omega) _ _ _ _ _ _ _ _, hg6.set8 _ _ _ _ _ _ _ _, below_set8 (g := w3.heap.size) hB6 (by omega) y0 y1 y2 y3 y4 y5 y6 y7⟩, by simp [intOf]; omega⟩
          · rw [← hy.out]; exact blk_w8 hw8 hb4.2
          · rw [HTK.out, HD.out, takeB, hy.out]
        · have hdr : ZS.drop (4 * k) = [] := List.drop_eq_nil_of_le (by omega)
          obtain ⟨z0, z1, z2, z3, z4, z5, z6, z7, rfl, -⟩ := hS.form
          obtain ⟨k0, k1, k2, k3, -⟩ := hgr.w8c
          obtain ⟨q0, q1, q2, q3⟩ := hxr.w4c
          obtain ⟨f0, f1, f2, f3⟩ := hxr.w4f
          have hd : decide ((i : Int) < (m : Int) + 2) = false := by simp; omega
          have HI := Lib.hid hi
          clear hi
          go_wp2_with fail
          have hfin := hxr.set4 z0 z1 z2 z3
          refine bodyPost_ret (v := .agg (wds [z0, z1, z2, z3])) (results_cell_row rfl _ _ w.heap.size 39 _ (0, 0) _ rfl hfin Tryd.underlying39 rfl (by kernel_rfl)) rfl ⟨?_, ?_⟩
          · rw [HZ.out, takeW, HTK.out, hdr, takeB]
            · rfl
            · intro a b c d l e; cases e
          · exact below_set4 hBr (Nat.le_refl _) _ _ _ _
end Go.Proofs.YtgpohndnkecbeaaDoor
